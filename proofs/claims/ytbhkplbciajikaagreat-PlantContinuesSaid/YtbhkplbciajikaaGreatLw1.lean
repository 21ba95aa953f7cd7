/- What follows an event, by the program: the functions; strokes that are begun. A run, by the program. Courses that are the same, by the reference. The examples of the law of plant. The law PlantEvents, in Am: it returns true. -/
import Derived.Test.YtbhkplbciajikaaGreatAf1
import Derived.KernelRfl
import Derived.Test.YtbhkplbciajikaaGreatMy2
set_option linter.all false
namespace Go.Proofs.YtbhkplbciajikaaGreat
open Go Go.Am Go.Proofs
set_option maxRecDepth 100000
theorem happ_len {c:Ct} {s:Ste} (hS:Shp c s) (x:Evn):(happV s x).ends.length=s.ends.length∧(happV s x).valves.length=s.valves.length∧(happV s x).inputs.length=s.inputs.length∧(happV s x).values.length=s.values.length∧(happV s x).timers.length=s.timers.length:=by
 unfold happV
 split
 ·simp
 ·split
  ·simp
  ·simp
set_option maxHeartbeats 1000000 in
theorem ev61 {c:Ct} {s:Ste} (h:Rdy c s) (x:Evn):ev pg (.call (.fn 61 [] []) [c.v,s.v,x.v] [])=some { v:=outV (afterV c s x),st:=⟨[],[]⟩ }:=by
 have e60:=ev60 s h.small
 obtain ⟨kd,id,vl⟩:=x
 obtain ⟨l1,l2,l3,l4,l5⟩:=happ_len h.shp ⟨kd,id,vl⟩
 unfold afterV
 rw [ev_call,pg61]
 by_cases hlo:kd < 0
 ·rw [if_pos (.inl hlo)]
  simp [ir61,e60,hlo,zeroS]
 ·by_cases hhi:2 < kd
  ·rw [if_pos (.inr hhi)]
   have hhi':(3:Int)≤kd:=by omega
   simp [ir61,e60,hlo,hhi',zeroS]
  ·have hk:¬ (kd < 0∨2 < kd):=by omega
   rw [if_neg hk]
   have e91:=ev91 h.shp id vl
   have e92:=ev92 h.shp id vl
   have e93:=ev93 h.shp id vl
   have hkd:kd=0∨kd=1∨kd=2:=by omega
   rcases hkd with rfl | rfl | rfl
   ·cases hm:mayV s ⟨0,id,vl⟩ with
    | false =>
     rw [hm] at e91
     simp only [Bool.false_eq_true,if_false] at e91
     simp at e91
     simp [ev_draw1,exT,chkOk,ir61,e60,e91,zeroS]
    | true =>
     rw [hm] at e91
     simp only [if_true] at e91
     have hR:Rdy c (happV s ⟨0,id,vl⟩):=⟨h.few,happ_right h.st hk hm⟩
     have e16:=ev16 c (happV s ⟨0,id,vl⟩) h.few hR.small
     unfold restR at e16
     rw [if_pos hR.st] at e16
     generalize happV s ⟨0,id,vl⟩=u at *
     generalize restE c u=z at *
     simp [l1,l2,l3,l4,l5] at e91
     simp [ev_draw1,exT,chkOk,ir61,e60,e91,e16,l1,l2,l3,l4,l5]
   ·cases hm:mayV s ⟨1,id,vl⟩ with
    | false =>
     rw [hm] at e92
     simp only [Bool.false_eq_true,if_false] at e92
     simp at e92
     simp [ev_draw1,exT,chkOk,ir61,e60,e92,zeroS]
    | true =>
     rw [hm] at e92
     simp only [if_true] at e92
     have hR:Rdy c (happV s ⟨1,id,vl⟩):=⟨h.few,happ_right h.st hk hm⟩
     have e16:=ev16 c (happV s ⟨1,id,vl⟩) h.few hR.small
     unfold restR at e16
     rw [if_pos hR.st] at e16
     generalize happV s ⟨1,id,vl⟩=u at *
     generalize restE c u=z at *
     simp [l1,l2,l3,l4,l5] at e92
     simp [ev_draw1,exT,chkOk,ir61,e60,e92,e16,l1,l2,l3,l4,l5]
   ·cases hm:mayV s ⟨2,id,vl⟩ with
    | false =>
     rw [hm] at e93
     simp only [Bool.false_eq_true,if_false] at e93
     simp at e93
     simp [ev_draw1,exT,chkOk,ir61,e60,e93,zeroS]
    | true =>
     rw [hm] at e93
     simp only [if_true] at e93
     have hR:Rdy c (happV s ⟨2,id,vl⟩):=⟨h.few,happ_right h.st hk hm⟩
     have e16:=ev16 c (happV s ⟨2,id,vl⟩) h.few hR.small
     unfold restR at e16
     rw [if_pos hR.st] at e16
     generalize happV s ⟨2,id,vl⟩=u at *
     generalize restE c u=z at *
     simp [l1,l2,l3,l4,l5] at e93
     simp [ev_draw1,exT,chkOk,ir61,e60,e93,e16,l1,l2,l3,l4,l5]
def nextR (c:Ct) (s:Ste) (x:Evn):Ste × List Int × Int:=if quE c s=0 then afterV c s x else (zeroS,[],quE c s)
theorem ev44 (c:Ct) (s:Ste) (hfew:c.small=true) (hs:s.small) (x:Evn):ev pg (.call (.fn 44 [] []) [c.v,s.v,x.v] [])=some { v:=outV (nextR c s x),st:=⟨[],[]⟩ }:=by
 have e49:=ev49 c s hfew hs
 unfold nextR
 rw [ev_call,pg44]
 by_cases h:quE c s=0
 ·have e61:=ev61 (quE_rdy hfew h) x
  rw [if_pos h]
  rw [h] at e49
  generalize afterV c s x=z at *
  simp [ir44,e49,e61]
 ·rw [if_neg h]
  have hb:(quE c s == 0)=false:=by simpa using h
  generalize quE c s=e at *
  simp [ir44,e49,h,hb,zeroS]
def T62 (x y:Ste) (k:Nat) (a:Nat × Nat):Tm:=[none,none,some (.bptr 0 0),some (.bptr 1 0),some (.sl 2 0 0 0 0),some (.sl 3 a.1 a.2 0 (freshTo x y k).length),none,none,none,some (ints y.ends),some (num y.ends.length),some (num k)]++List.replicate 28 none
set_option maxHeartbeats 1000000 in
theorem lp62 (x y:Ste) (hs:x.small) (he:y.ends.length=x.ends.length) {st:St} (a0:Nat × Nat) (g0:gm2 a0) (h0:At (T62 x y 0 a0) (h64 x y 0 a0) st):∃ r,ev pg (.code (.going 4 L62_0) st)=some r∧∃ a,gm2 a∧EndsAs (.exit 0) (T62 x y y.ends.length a) (h64 x y y.ends.length a) r:=by
 have hse:=hs.e
 refine loop_at y.ends.length (T62 x y) (h64 x y) (fun _ a=>gm2 a) _ ?_ ?_ a0 g0 h0
 ·rintro k ⟨g,m⟩ f hf hk2 hG
  have hk':(k:Int) < y.ends.length:=by omega
  have hk:k < x.ends.length:=by omega
  have wk:=wrap_id (n:=(k:Int) + 1) (by omega) (by omega)
  have hsl:=freshTo_len x y k
  have hp:freshF x y k=if (y.ends[k]=1∨y.ends[k]=3)∧x.ends[k] ≠ y.ends[k] then some ((k:Int),y.ends[k] == 1) else none:=by
   unfold freshF
   rw [List.getElem?_eq_getElem hk,List.getElem?_eq_getElem hk2]
  unfold T62 h64
  rw [freshTo_succ,hp]
  generalize freshTo x y k=B at *
  have hb1:(B.length + 1) * 16≤140737488355328:=by omega
  have hmm:m=2∨m=0:=hG
  by_cases h2:y.ends[k]=x.ends[k]
  ·have h2s:¬ x.ends[k] ≠ y.ends[k]:=fun h=>h h2.symm
   rw [if_neg (fun h=>h2s h.2)]
   rcases hmm with rfl | rfl <;> simp [L62_0,hk,hk',hk2,wk,h2,hf.ne]
  ·have h2b:(y.ends[k] == x.ends[k])=false:=by simpa using h2
   have h2n:(y.ends[k] != x.ends[k])=true:=by simpa using h2
   have h2s:x.ends[k] ≠ y.ends[k]:=fun h=>h2 h.symm
   by_cases h1:y.ends[k]=1
   ·rw [if_pos ⟨.inl h1,h2s⟩]
    rw [h1] at h2 h2b h2n
    rcases hmm with rfl | rfl <;> simp [L62_0,hk,hk',hk2,wk,h1,h2,h2b,h2n,hb1,hf.ne]
   ·have h1b:(y.ends[k] == 1)=false:=by simpa using h1
    by_cases h3:y.ends[k]=3
    ·rw [if_pos ⟨.inr h3,h2s⟩]
     rw [h3] at h2 h2b h2n
     rcases hmm with rfl | rfl <;> simp [L62_0,hk,hk',hk2,wk,h3,h2,h2b,h2n,hb1,hf.ne]
    ·have h3b:(y.ends[k] == 3)=false:=by simpa using h3
     rw [if_neg (fun h=>h.1.elim h1 h3)]
     rcases hmm with rfl | rfl <;> simp [L62_0,hk,hk',hk2,wk,h1,h1b,h2,h2b,h2n,h3,h3b,hf.ne]
 ·rintro ⟨g,m⟩ f hf hG
  unfold T62 h64
  generalize freshTo x y y.ends.length=B at *
  have hmm:m=2∨m=0:=hG
  rcases hmm with rfl | rfl <;> simp [L62_0,hf.ne]
theorem ev62 (x y:Ste) (hs:x.small) (he:y.ends.length=x.ends.length):ev pg (.call (.fn 62 [] []) [x.v,y.v] [])=some { v:=strs (freshV x y),st:=⟨[],[]⟩ }:=by
 have hl:=@lp62 x y hs he
 have z0:freshTo x y 0=[]:=rfl
 have z1:freshTo x y y.ends.length=freshV x y:=by rw [he]; rfl
 unfold h64 T62 at hl
 rw [z0,z1] at hl
 generalize freshV x y=B at *
 rw [ev_call,pg62]
 simp [ir62,ev_loop]
 generalize hr:ev pg (.code (.going _ L62_0) _)=o
 obtain ⟨r,rfl,⟨g,m⟩,hm,f,hf,rfl⟩:∃ r,o=some r∧_:=by rw [← hr]; exact hl (0,0) (.inr rfl) (by simp)
 clear hr
 have hmm:m=2∨m=0:=hm
 rcases hmm with rfl | rfl <;> simp
abbrev fz5 (u:Ste):H:=[⟨0,.frz 1 (u.ends.map nrow)⟩,⟨0,.frz 1 (u.valves.map brow)⟩,⟨0,.frz 1 (u.inputs.map brow)⟩,⟨0,.frz 1 (u.values.map brow)⟩,⟨0,.frz 1 (u.timers.map nrow)⟩]
def h22 (c:Ct) (s:Ste) (k:Nat) (a:Crs × Nat × Nat):H:=if k=0 then [⟨0,.box c.cells⟩,⟨0,.box s.cells⟩,o0,o0,o0,o0,o0,o0,o0,⟨0,.box (cr7 2)⟩]++ar5 s++[o0,o0,o0,o0,o0,o0,o0,⟨0,.box (sl5 10 s++[.sl 23 0 0 0 0,.sl 24 0 0 0 0])⟩,o0,o0]
 else [⟨0,.box c.cells⟩,⟨0,.box s.cells⟩,o0,o0,o0,o0,o0,o0,o0,⟨0,.box (cr7 2)⟩]++fz5 s++[o0,o0,o0,o0,o0,o0,o0,⟨0,.box (a.1.st.cells++[.sl 23 a.2.1 a.2.2 0 a.1.strokes.length,ints a.1.conf])⟩,⟨a.2.1,.arr a.2.2 (a.1.strokes.map lrow)⟩,⟨0,.frz 0 []⟩]
def T22 (l:List Evn) (k:Nat):Tm:=[none,none,none,some (.bptr 0 0),some (.bptr 1 0),none,some (.bptr 9 0),some (num 0),some (num 0),none,some (.bptr 22 0)]++List.replicate 19 none++[some (evs l),some (num l.length),some (num k)]++List.replicate 34 none
def T22r (i e:Int):Tm:=[none,none,none,none,none,none,some (.bptr 9 0),some (num i),some (num e)]++List.replicate 58 none
structure G22 (c:Ct) (s:Ste) (l:List Evn) (Z:Crs × Int × Int) (k:Nat) (a:Crs × Nat × Nat):Prop where
 go:runGo c (l.drop k) k a.1=Z
 rdy:Rdy c a.1.st
 lin:Lin (allN c) a.1.conf
 nil:k=0→a.1=⟨s,[],[]⟩
 len:a.1.strokes.length=k
 gm:k ≠ 0→a.2.2=1
inductive Out22 (c:Ct) (s:Ste) (l:List Evn) (Z:Crs × Int × Int) (r:R):Prop where
 | ok (k:Nat) (a:Crs × Nat × Nat) (hz:Z=(a.1,0,0)) (hn:k=0→a.1=⟨s,[],[]⟩) (hg:k ≠ 0→a.2.2=1) (he:EndsAs (.exit 0) (T22 l l.length) (h22 c s k a) r)
 | bad0 (e:Int) (hz:Z=(zeroCrs,0,e)) (x:List V) (u:Ste) (he:EndsAs .ret (T22r 0 e) ([⟨0,.box c.cells⟩,⟨0,.box s.cells⟩,o0,o0,o0,o0,o0,o0,o0,⟨0,.box (cr7 32)⟩]++fz5 s++[o0,o0,o0,o0,o0,o0,o0,⟨0,.box (sl5 10 s++[.sl 23 0 0 0 0,.sl 24 0 0 0 0])⟩,o0,o0,⟨0,.box x⟩,o0,o0,o0,o0,o0,⟨0,.box u.cells⟩,o0,o0,o0,o0,o0,o0,o0]) r)
 | bad1 (i e:Int) (hz:Z=(zeroCrs,i,e)) (a:Crs × Nat × Nat) (x:List V) (u:Ste) (he:EndsAs .ret (T22r i e) ([⟨0,.box c.cells⟩,⟨0,.box s.cells⟩,o0,o0,o0,o0,o0,o0,o0,⟨0,.box (cr7 32)⟩]++fz5 s++[o0,o0,o0,o0,o0,o0,o0,⟨0,.box (a.1.st.cells++[.sl 23 a.2.1 a.2.2 0 a.1.strokes.length,ints a.1.conf])⟩,⟨a.2.1,.arr a.2.2 (a.1.strokes.map lrow)⟩,⟨0,.frz 0 []⟩,⟨0,.box x⟩,o0,o0,o0,o0,o0,⟨0,.box u.cells⟩,o0,o0,o0,o0,o0,o0,o0]) r)
set_option maxHeartbeats 4000000 in
theorem lp22 {c:Ct} {s:Ste} (hs:Rdy c s) (l:List Evn) (hn:l.length≤4096) {st:St} (h0:At (T22 l 0) (h22 c s 0 (⟨s,[],[]⟩,0,0)) st):∃ r,ev pg (.code (.going 25 L22_0) st)=some r∧Out22 c s l (runGo c l 0 ⟨s,[],[]⟩) r:=by
 generalize hR:runGo c l 0 ⟨s,[],[]⟩=Z
 refine loop_at l.length (fun k _=>T22 l k) (h22 c s) (G22 c s l Z) _ ?_ ?_ (⟨s,[],[]⟩,0,0) ⟨hR,hs,Lin.nil _,fun _=>rfl,rfl,fun h=>absurd rfl h⟩ h0
 ·rintro k ⟨⟨t,S,C⟩,g,m⟩ f hf hk hG
  have hgo:=hG.go
  have hrd:=hG.rdy
  have hlin:=hG.lin
  have hnil:=hG.nil
  have hlen:=hG.len
  have hgm:=hG.gm
  simp only at hgo hrd hlin hnil hlen hgm
  have hk':(k:Int) < l.length:=by omega
  have wk:=wrap_id (n:=(k:Int) + 1) (by omega) (by omega)
  have w1:IntKind.i64.wrap 1=1:=by decide
  have e61:=ev61 hrd l[k]
  have hN:=allN_le hrd.mid
  rw [List.drop_eq_getElem_cons hk] at hgo
  by_cases hz:(afterV c t l[k]).2.2=0
  ·rw [runGo,if_pos hz] at hgo
   have hru:Rdy c (afterV c t l[k]).1:=⟨hrd.few,afterV_right hrd.st hz⟩
   have hee:(afterV c t l[k]).1.ends.length=t.ends.length:=by
    have h1:=hru.shp.e
    have h2:=hrd.shp.e
    omega
   have e62:=ev62 t (afterV c t l[k]).1 hrd.small hee
   have hm:Lin (allN c) (afterV c t l[k]).2.1:=afterV_lin _ _ _
   have hlc:=hlin.len
   have hlm:=hm.len
   have e54:=ev54 (allN c) C (afterV c t l[k]).2.1 (by omega) (by omega) (fun x hx=>(List.mem_append.1 hx).elim (hlin.b x) (hm.b x))
   have hl':Lin (allN c) (norm (allN c) (C++(afterV c t l[k]).2.1)):=Lin.norm _ _
   generalize norm (allN c) (C++(afterV c t l[k]).2.1)=p at *
   generalize freshV t (afterV c t l[k]).1=fr at *
   generalize afterV c t l[k]=z at *
   obtain ⟨u,q,e⟩:=z
   simp only at hz hgo hru e54 e62 e61
   subst hz
   have hb1:(S.length + 1) * 24≤140737488355328:=by omega
   by_cases hk0:k=0
   ·subst hk0
    have hc:=hnil rfl
    obtain ⟨rfl,rfl,rfl⟩:=Crs.mk.inj hc
    have hG':G22 c t l Z (0 + 1) (⟨u,[fr],p⟩,1,1):=⟨hgo,hru,hl',fun h=>absurd h (by omega),rfl,fun _=>rfl⟩
    have e54':ev pg (.call (.fn 54 [] []) [.imm [],ints q] [])=some { v:=ints p,st:=⟨[],[]⟩ }:=e54
    unfold T22 h22
    simp [ev_draw1,exT,chkOk,L22_0,hk,e61,e62,e54',w1,hf.ne]
    exact ⟨_,_,_,hG',by simp⟩
   ·have hm1:m=1:=hgm hk0
    subst hm1
    have hG':G22 c s l Z (k + 1) (⟨u,S++[fr],p⟩,g + 1,1):=⟨hgo,hru,hl',fun h=>absurd h (by omega),by simp [hlen],fun _=>rfl⟩
    unfold T22 h22
    simp [ev_draw1,exT,chkOk,L22_0,hk,hk',hk0,wk,e61,e62,e54,hb1,hf.ne]
    exact ⟨_,_,_,hG',by simp⟩
  ·rw [runGo_bad hz] at hgo
   subst hgo
   generalize afterV c t l[k]=z at *
   obtain ⟨u,q,e⟩:=z
   simp only at hz e61
   have hzb:(e == 0)=false:=by simpa using hz
   by_cases hk0:k=0
   ·subst hk0
    have hc:=hnil rfl
    obtain ⟨rfl,rfl,rfl⟩:=Crs.mk.inj hc
    unfold T22 h22
    simp [ev_draw1,exT,chkOk,L22_0,hk,e61,hz,hzb,hf.ne]
    exact .bad0 e rfl l[0].row u (by simp [T22r,hf.ne])
   ·have hm1:m=1:=hgm hk0
    subst hm1
    unfold T22 h22
    simp [ev_draw1,exT,chkOk,L22_0,hk,hk',hk0,e61,hz,hzb,hf.ne]
    exact .bad1 k e rfl (⟨t,S,C⟩,g,1) l[k].row u (by simp [T22r,hf.ne])
 ·rintro ⟨⟨t,S,C⟩,g,m⟩ f hf hG
  have hgo:=hG.go
  have hnil:=hG.nil
  have hgm:=hG.gm
  simp only [List.drop_length,runGo] at hgo hnil hgm
  have hlen:=hG.len
  simp only at hlen
  by_cases hk0:l.length=0
  ·have hc:=hnil hk0
   obtain ⟨rfl,rfl,rfl⟩:=Crs.mk.inj hc
   unfold T22 h22
   simp [L22_0,hk0,hf.ne]
   exact .ok 0 (⟨t,[],[]⟩,g,m) hgo.symm (fun _=>rfl) (fun h=>absurd rfl h) (by simp [T22,h22,hk0,hf.ne])
  ·have hm1:m=1:=hgm hk0
   subst hm1
   unfold T22 h22
   simp [L22_0,hk0,hf.ne]
   exact .ok l.length (⟨t,S,C⟩,g,1) hgo.symm hnil hgm (by simp [T22,h22,hk0,hf.ne])
theorem ev22 (c:Ct) (s:Ste) (hfew:c.small=true) (hs:s.small) (l:List Evn) (hl:l.length≤100000):ev pg (.call (.fn 22 [] []) [c.v,s.v,evs l] [])=some { v:=.tup [(runR c s l).1.v,num (runR c s l).2.1,num (runR c s l).2.2],st:=⟨[],[]⟩ }:=by
 have e49:=ev49 c s hfew hs
 have e60:=ev60 s hs
 unfold runR
 rw [ev_call,pg22]
 by_cases h:quE c s=0
 ·rw [if_pos h]
  rw [h] at e49
  by_cases hn:4096 < l.length
  ·rw [if_pos hn]
   have hn':(4096:Int) < l.length:=by omega
   simp [ir22,e49,hn',zeroCrs,zeroS]
  ·rw [if_neg hn]
   have hn':¬ (4096:Int) < l.length:=by omega
   have hlp:=@lp22 c s (quE_rdy hfew h) l (by omega)
   generalize runGo c l 0 ⟨s,[],[]⟩=Z at *
   simp [ir22,e49,e60,hn',ev_loop]
   generalize hr:ev pg (.code (.going _ L22_0) _)=o
   obtain ⟨r,rfl,hQ⟩:∃ r,o=some r∧_:=by rw [← hr]; exact hlp (by simp [T22,h22])
   clear hr
   cases hQ with
   | ok k a hz hn0 hg he =>
    obtain ⟨⟨t,S,C⟩,g,m⟩:=a
    obtain ⟨f,hf,rfl⟩:=he
    subst hz
    by_cases hk0:k=0
    ·have hc:=hn0 hk0
     simp only at hc
     obtain ⟨rfl,rfl,rfl⟩:=Crs.mk.inj hc
     simp [T22,h22,hk0]
    ·have hm1:m=1:=hg hk0
     subst hm1
     simp [T22,h22,hk0]
   | bad0 e hz x u he =>
    obtain ⟨f,hf,rfl⟩:=he
    subst hz
    simp [T22r,zeroCrs,zeroS]
   | bad1 i e hz a x u he =>
    obtain ⟨f,hf,rfl⟩:=he
    subst hz
    simp [T22r,zeroCrs,zeroS]
 ·rw [if_neg h]
  have hb:(quE c s == 0)=false:=by simpa using h
  generalize quE c s=e at *
  simp [ir22,e49,h,hb,zeroCrs,zeroS]
def T66 (a:List Int) (k:Nat):Tm:=[some (ints a),some (ints a),none,none,none,some (num k)]++List.replicate 20 none
theorem lp66 (a:List Int) (ha:a.length≤100000) {st:St} (h0:At (T66 a 0) [] st):∃ r,ev pg (.code (.going 0 L66_0) st)=some r∧EndsAs (.exit 0) (T66 a a.length) [] r:=by
 refine loop_pic a.length (T66 a) (fun _=>[]) _ ?_ ?_ h0
 ·intro k f hf hk
  have hk':(k:Int) < a.length:=by omega
  have wk:=wrap_id (n:=(k:Int) + 1) (by omega) (by omega)
  simp [ev_draw1,exT,chkOk,T66,L66_0,hk,hk',wk,hf.ne]
 ·intro f hf
  simp [T66,L66_0,hf.ne]
theorem ev66s (a:List Int) (ha:a.length≤100000):ev pg (.call (.fn 66 [] []) [ints a,ints a] [])=some { v:=.bool true,st:=⟨[],[]⟩ }:=by
 have hl:=@lp66 a ha
 rw [ev_call,pg66]
 simp [ir66,ev_loop]
 generalize hr:ev pg (.code (.going _ L66_0) _)=o
 obtain ⟨r,rfl,f,hf,rfl⟩:∃ r,o=some r∧_:=by rw [← hr]; exact hl (by simp [T66])
 simp [T66]
abbrev lls (a:List (List (Int × Bool))):V:=.imm (a.map lrow)
def T34i (a:List (List (Int × Bool))) (i k:Nat):Tm:=[some (lls a),some (lls a),none,none,none,some (num i),some (num k)]++List.replicate 46 none
def T34o (a:List (List (Int × Bool))) (i:Nat):Tm:=[some (lls a),some (lls a),none,none,none,some (num i)]++List.replicate 47 none
theorem lp34i (a:List (List (Int × Bool))) (i:Nat) (hi:i < a.length) (ha:a[i].length≤100000) {st:St} (h0:At (T34i a i 0) [] st):∃ r,ev pg (.code (.going 0 L34_0) st)=some r∧EndsAs (.exit 2) (T34i a i a[i].length) [] r:=by
 refine loop_pic a[i].length (T34i a i) (fun _=>[]) _ ?_ ?_ h0
 ·intro k f hf hk
  have hk':(k:Int) < a[i].length:=by omega
  have wk:=wrap_id (n:=(k:Int) + 1) (by omega) (by omega)
  simp [ev_draw1,exT,chkOk,T34i,L34_0,hi,hk,hk',wk,hf.ne]
 ·intro f hf
  simp [T34i,L34_0,hi,hf.ne]
theorem lp34o (a:List (List (Int × Bool))) (ha:a.length≤100000) (hb:∀ l ∈ a,l.length≤100000) {st:St} (h0:At (T34o a 0) [] st):∃ r,ev pg (.code (.going 0 L34_1) st)=some r∧EndsAs (.exit 0) (T34o a a.length) [] r:=by
 refine loop_pic a.length (T34o a) (fun _=>[]) _ ?_ ?_ h0
 ·intro i f hf hi
  have hi':(i:Int) < a.length:=by omega
  have wi:=wrap_id (n:=(i:Int) + 1) (by omega) (by omega)
  have hl:=@lp34i a i hi (hb _ (List.getElem_mem hi))
  simp [ev_draw1,exT,chkOk,T34o,L34_1,hi,hi',ev_loop,hf.ne]
  generalize hr:ev pg (.code (.going _ L34_0) _)=o
  obtain ⟨r,rfl,f2,hf2,rfl⟩:∃ r,o=some r∧_:=by rw [← hr]; exact hl (by simp [T34i,hf.ne])
  clear hr
  simp [T34i,wi,hf2.ne]
 ·intro f hf
  simp [T34o,L34_1,hf.ne]
theorem ev34s (a:List (List (Int × Bool))) (ha:a.length≤100000) (hb:∀ l ∈ a,l.length≤100000):ev pg (.call (.fn 34 [] []) [lls a,lls a] [])=some { v:=.bool true,st:=⟨[],[]⟩ }:=by
 have hl:=@lp34o a ha hb
 rw [ev_call,pg34]
 simp [ir34,ev_loop]
 generalize hr:ev pg (.code (.going _ L34_1) _)=o
 obtain ⟨r,rfl,f,hf,rfl⟩:∃ r,o=some r∧_:=by rw [← hr]; exact hl (by simp [T34o])
 simp [T34o]
structure Crs.small (r:Crs):Prop where
 st:r.st.small
 len:r.strokes.length≤100000
 each:∀ l ∈ r.strokes,l.length≤100000
 conf:r.conf.length≤4096
theorem ev24s (r:Crs) (h:r.small):ev pg (.call (.fn 24 [] []) [r.v,r.v] [])=some { v:=.bool true,st:=⟨[],[]⟩ }:=by
 have e20:=ev20 r.st r.st h.st
 rw [sameT_self] at e20
 have e34:=ev34s r.strokes h.len h.each
 have e66:=ev66s r.conf (by have:=h.conf; omega)
 rw [ev_call,pg24]
 simp [ir24,e20,e34,e66]
theorem zeroS_small:zeroS.small:=⟨by simp [zeroS],by simp [zeroS],by simp [zeroS],by simp [zeroS],by simp [zeroS]⟩
theorem zeroCrs_small:zeroCrs.small:=⟨zeroS_small,by simp [zeroCrs],by simp [zeroCrs],by simp [zeroCrs]⟩
theorem freshV_len (a b:Ste):(freshV a b).length≤a.ends.length:=by rw [freshV_to]; exact freshTo_len _ _ _
theorem runGo_small {c:Ct}:∀ {l:List Evn} {i:Nat} {r:Crs},Rdy c r.st→r.conf.length≤4096→r.strokes.length + l.length≤100000→(∀ x ∈ r.strokes,x.length≤100000)→(runGo c l i r).1.small
 | [],_,r,h,h2,h3,h4=>⟨h.small,by simpa [runGo] using h3,h4,h2⟩
 | x :: l,i,r,h,h2,h3,h4=>by
  rw [runGo]
  by_cases hz:(afterV c r.st x).2.2=0
  ·rw [if_pos hz]
   have hN:=allN_le h.mid
   refine runGo_small ⟨h.few,afterV_right h.st hz⟩ ?_ ?_ ?_
   ·have:=norm_le (allN c) (r.conf++(afterV c r.st x).2.1)
    simp only
    omega
   ·simp only [List.length_append,List.length_cons,List.length_nil] at h3 ⊢
    omega
   ·intro y hy
    simp only [List.mem_append,List.mem_singleton] at hy
    rcases hy with hy | rfl
    ·exact h4 y hy
    ·have h5:=freshV_len r.st (afterV c r.st x).1
     have h6:=h.small.e
     omega
  ·rw [if_neg hz]
   exact zeroCrs_small
theorem runR_small {c:Ct} (hc:c.small=true) (s:Ste) (l:List Evn) (hl:l.length≤100000):(runR c s l).1.small:=by
 unfold runR
 split
 ·rename_i h
  split
  ·exact zeroCrs_small
  ·exact runGo_small (quE_rdy hc h) (by simp) (by simpa using hl) (by simp)
 ·exact zeroCrs_small
theorem restR_small (c:Ct) {s:Ste} (hc:c.small=true):(restR c s).1.small∧(restR c s).2.1.length≤4096:=by
 unfold restR
 by_cases h:stE c s=0
 ·rw [if_pos h]
  have hlin:=restE_lin c s
  have hN:=allN_le (Rdy.mid ⟨hc,h⟩)
  refine ⟨?_,by have:=hlin.len; omega⟩
  unfold restE
  cases e:restV c s with
  | none=>exact ⟨by simp [zeroS],by simp [zeroS],by simp [zeroS],by simp [zeroS],by simp [zeroS]⟩
  | some x=>exact Rdy.small ⟨hc,restV_right h (show restV c s=some (x.1,x.2) from e)⟩
 ·rw [if_neg h]
  exact ⟨⟨by simp [zeroS],by simp [zeroS],by simp [zeroS],by simp [zeroS],by simp [zeroS]⟩,by simp⟩
theorem startR_eq (c:Ct) (hc:c.check=0):startR c=restR c (beginV c):=by
 unfold startR restR
 rw [if_pos hc,if_pos (beginV_right hc)]
theorem startR_small (c:Ct) (hc:c.small=true):(startR c).1.small∧(startR c).2.1.length≤4096:=by
 by_cases h:c.check=0
 ·rw [startR_eq c h]
  exact restR_small c hc
 ·unfold startR
  rw [if_neg h]
  exact ⟨⟨by simp [zeroS],by simp [zeroS],by simp [zeroS],by simp [zeroS],by simp [zeroS]⟩,by simp⟩
theorem afterV_small {c:Ct} {s:Ste} (h:Rdy c s) (x:Evn):(afterV c s x).1.small:=by
 by_cases hz:(afterV c s x).2.2=0
 ·exact Rdy.small ⟨h.few,afterV_right h.st hz⟩
 ·unfold afterV at hz ⊢
  split
  ·exact zeroS_small
  ·rename_i h1
   rw [if_neg h1] at hz
   split
   ·rename_i h2
    rw [if_pos h2] at hz
    unfold restE at hz ⊢
    cases e:restV c (happV s x) with
    | none=>exact zeroS_small
    | some y=>rw [e] at hz; exact absurd rfl hz
   ·exact zeroS_small
theorem nextR_small {c:Ct} (hc:c.small=true) (s:Ste) (x:Evn):(nextR c s x).1.small:=by
 unfold nextR
 split
 ·rename_i h
  exact afterV_small (quE_rdy hc h) x
 ·exact zeroS_small
end Go.Proofs.YtbhkplbciajikaaGreat
namespace Go.Proofs.YtbhkplbciajikaaGreat
open Go Go.Am Go.Proofs
set_option maxRecDepth 1000000
def one:Ct:=⟨1,[[115,116,97,114,116]],[⟨[109],1,.mk 3 0 [.mk 1 2 [],.mk 1 0 []],.mk 1 1 [],0,false⟩,⟨[103],0,.mk 2 0 [.mk 1 3 []],.mk 0 0 [],0,false⟩],[3],[4]⟩
def two:Ct:=⟨1,[[115,116,97,114,116]],[⟨[109],1,.mk 3 0 [.mk 1 2 [],.mk 1 0 []],.mk 1 1 [],0,false⟩,⟨[103],0,.mk 2 0 [.mk 1 3 []],.mk 0 0 [],0,false⟩],[3],[3]⟩
def press:Evn:=⟨2,0,true⟩
def endE:Evn:=⟨0,0,false⟩
def aw0:Ste:=(startR one).1
def aw1:Ste:=(nextR one aw0 press).1
def aw2:Ste:=(runR one aw0 [press,endE,endE]).1.st
def aw3:Ste:=(nextR two aw0 press).1
def aw4:List Int:=(nextR one aw0 press).2.1
theorem one_run:evN pg 200 (.call (.fn 43 [] []) [] [])=some { v:=one.v,st:=⟨[],[]⟩ }:=by kernel_rfl
theorem ev43:ev pg (.call (.fn 43 [] []) [] [])=some { v:=one.v,st:=⟨[],[]⟩ }:=ev_of one_run
theorem one_few:one.small=true:=by kernel_rfl
theorem two_few:two.small=true:=by kernel_rfl
theorem awq1:startR one=(aw0,[],0):=by kernel_rfl
theorem awq2:eventsR one aw0=([],0):=by kernel_rfl
theorem awq3:runR one aw0 [press,endE,endE]=(⟨aw2,[[(0,true)],[(0,false)],[(0,true)]],[]⟩,0,0):=by kernel_rfl
theorem awq4:nextR one aw0 press=(aw1,aw4,0):=by kernel_rfl
theorem awq5:eventsR one aw1=([endE],0):=by kernel_rfl
theorem awq6:nextR two aw0 press=(aw3,[5],0):=by kernel_rfl
theorem awq7:quietR two aw0=(true,0):=by kernel_rfl
theorem aw0_small:aw0.small:=(startR_small one one_few).1
theorem aw1_small:aw1.small:=nextR_small one_few aw0 press
set_option maxHeartbeats 1000000 in
theorem ev10:ev pg (.call (.fn 10 [] []) [] [])=some { v:=.bool true,st:=⟨[],[]⟩ }:=by
 have e43:=ev43
 have e18:=ev18 one one_few
 rw [awq1] at e18
 have e13:=ev13 one aw0 one_few aw0_small
 rw [awq2] at e13
 have e22:=ev22 one aw0 one_few aw0_small [press,endE,endE] (by simp)
 rw [awq3] at e22
 have e34:=ev34s [[(0,true)],[(0,false)],[(0,true)]] (by simp) (by simp)
 have e44:=ev44 one aw0 one_few aw0_small press
 rw [awq4] at e44
 have e13b:=ev13 one aw1 one_few aw1_small
 rw [awq5] at e13b
 have e15:=ev15 [endE] [endE] (by simp)
 have e44b:=ev44 two aw0 two_few aw0_small press
 rw [awq6] at e44b
 have e11:=ev11 two aw0 two_few aw0_small
 rw [awq7] at e11
 have e21:=ev21 [5] [5] (by simp)
 have w0:IntKind.i64.wrap 0=0:=by decide
 simp only [decide_true] at e15 e21
 generalize aw0=s0 at *
 generalize aw1=s1 at *
 generalize aw2=s2 at *
 generalize aw3=s3 at *
 generalize aw4=l4 at *
 have t2:two.v=.agg [num one.act,.imm (one.inputs.map srow),.imm (one.signals.map Sg.row),ints one.plus,.imm [[num 3]]]:=rfl
 rw [t2] at e44b e11
 have x22:ev pg (.call (.fn 22 [] []) [one.v,s0.v,.imm [[num 2,num 0,.bool true],[num 0,num 0,.bool false],[num 0,num 0,.bool false]]] [])=some { v:=.tup [.agg (s2.cells++[.imm [[.imm [[num 0,.bool true]]],[.imm [[num 0,.bool false]]],[.imm [[num 0,.bool true]]]],.imm []]),num 0,num 0],st:=⟨[],[]⟩ }:=e22
 have x34:ev pg (.call (.fn 34 [] []) [.imm [[.imm [[num 0,.bool true]]],[.imm [[num 0,.bool false]]],[.imm [[num 0,.bool true]]]],.imm [[.imm [[num 0,.bool true]]],[.imm [[num 0,.bool false]]],[.imm [[num 0,.bool true]]]]] [])=some { v:=.bool true,st:=⟨[],[]⟩ }:=e34
 have x44:ev pg (.call (.fn 44 [] []) [one.v,s0.v,.agg [num 2,num 0,.bool true]] [])=some { v:=outV (s1,l4,0),st:=⟨[],[]⟩ }:=e44
 have x13:ev pg (.call (.fn 13 [] []) [one.v,s1.v] [])=some { v:=.tup [.imm [[num 0,num 0,.bool false]],num 0],st:=⟨[],[]⟩ }:=e13b
 have x15:ev pg (.call (.fn 15 [] []) [.imm [[num 0,num 0,.bool false]],.imm [[num 0,num 0,.bool false]]] [])=some { v:=.bool true,st:=⟨[],[]⟩ }:=e15
 have x44b:ev pg (.call (.fn 44 [] []) [.agg [num one.act,.imm (one.inputs.map srow),.imm (one.signals.map Sg.row),ints one.plus,.imm [[num 3]]],s0.v,.agg [num 2,num 0,.bool true]] [])=some { v:=.tup [s3.v,.imm [[num 5]],num 0],st:=⟨[],[]⟩ }:=e44b
 have x21:ev pg (.call (.fn 21 [] []) [.imm [[num 5]],.imm [[num 5]]] [])=some { v:=.bool true,st:=⟨[],[]⟩ }:=e21
 have x13a:ev pg (.call (.fn 13 [] []) [one.v,s0.v] [])=some { v:=.tup [.imm [],num 0],st:=⟨[],[]⟩ }:=e13
 have x18:ev pg (.call (.fn 18 [] []) [one.v] [])=some { v:=.tup [s0.v,.imm [],num 0],st:=⟨[],[]⟩ }:=e18
 clear e22 e34 e44 e13b e15 e44b e21 e13 e18
 rw [ev_call,pg10]
 simp [ir10,e43,x18,x13a,x22,x34,x44,x13,x15,x44b,e11,x21,w0]
theorem few_both {c:Ct} {s:Ste} (h:(c.few && s.few)=true):c.small=true∧s.small:=by
 rw [Bool.and_eq_true] at h
 exact ⟨few_small h.1,few_smallS h.2⟩
theorem eventsR_len (c:Ct) {s:Ste} (hs:s.small):(eventsR c s).1.length≤100000:=by
 unfold eventsR
 split
 ·exact pend_len s hs
 ·simp
theorem ev3 (c:Ct) (s:Ste):ev pg (.call (.fn 3 [] []) [c.v,s.v] [])=some { v:=.bool true,st:=⟨[],[]⟩ }:=by
 have e9:=ev9 c s
 have e10:=ev10
 rw [ev_call,pg3]
 cases hf:(c.few && s.few) with
 | false =>
  rw [hf] at e9
  simp [ir3,e9,e10]
 | true =>
  rw [hf] at e9
  obtain ⟨hc,hs⟩:=few_both hf
  have e11:=ev11 c s hc hs
  have e12:=ev12 c s hc hs
  have e13:=ev13 c s hc hs
  have e14:=ev14 c s hc hs
  have e15:=ev15 (eventsR c s).1 (eventsR c s).1 (eventsR_len c hs)
  simp only [decide_true] at e15
  generalize quietR c s=q at *
  generalize eventsR c s=e at *
  obtain ⟨q1,q2⟩:=q
  obtain ⟨l,e2⟩:=e
  simp only at e15
  simp [ir3,e9,e10,e11,e12,e13,e14,e15]
end Go.Proofs.YtbhkplbciajikaaGreat
