/- Quiet and Events of the reference. The plant comes to rest, by the program. Quiet, by the program. -/
import Derived.Test.YtbhkplbciajikaaGreatBe2
import Derived.KernelRfl
set_option linter.all false
namespace Go.Proofs.YtbhkplbciajikaaGreat
open Go Go.Am Go.Proofs
set_option maxRecDepth 100000
def stillB (c:Ct) (s:Ste):Bool:=((roundV c s).map fun x=>sameT s x.1).getD false
theorem ev48 {c:Ct} {s:Ste} (h:Rdy c s):ev pg (.call (.fn 48 [] []) [c.v,s.v] [])=some { v:=.bool (stillB c s),st:=⟨[],[]⟩ }:=by
 have h83:=ev83 h
 unfold stillB
 rw [ev_call,pg48]
 cases hZ:roundV c s with
 | none =>
  rw [hZ] at h83
  simp [setV] at h83
  simp [ir48,h83]
 | some x =>
  obtain ⟨t,m⟩:=x
  have h20:=ev20 s t h.small
  rw [hZ] at h83
  simp [setV] at h83
  simp [ir48,h83,h20]
def quietR (c:Ct) (s:Ste):Bool × Int:=if stE c s=0 then (stillB c s,0) else (false,stE c s)
theorem ev12 (c:Ct) (s:Ste) (hfew:c.small=true) (hs:s.small):ev pg (.call (.fn 12 [] []) [c.v,s.v] [])=some { v:=.tup [.bool (quietR c s).1,num (quietR c s).2],st:=⟨[],[]⟩ }:=by
 have h27:=ev27' c s hfew hs
 unfold quietR
 rw [ev_call,pg12]
 by_cases h:stE c s=0
 ·have h48:=ev48 ⟨hfew,h⟩
  rw [if_pos h]
  rw [h] at h27
  generalize stillB c s=x at *
  simp [ir12,h27,h48]
 ·rw [if_neg h]
  have hb:(stE c s == 0)=false:=by simpa using h
  generalize stE c s=e at *
  simp [ir12,h27,h,hb]
def quE (c:Ct) (s:Ste):Int:=if stE c s=0 then (if stillB c s=true then 0 else 14) else stE c s
theorem ev52 (c:Ct) (s:Ste) (hfew:c.small=true) (hs:s.small):ev pg (.call (.fn 52 [] []) [c.v,s.v] [])=some { v:=num (quE c s),st:=⟨[],[]⟩ }:=by
 have h27:=ev27' c s hfew hs
 unfold quE
 rw [ev_call,pg52]
 by_cases h:stE c s=0
 ·have h48:=ev48 ⟨hfew,h⟩
  rw [if_pos h]
  rw [h] at h27
  cases hb:stillB c s <;> rw [hb] at h48 <;> simp [ir52,h27,h48]
 ·rw [if_neg h]
  have hb:(stE c s == 0)=false:=by simpa using h
  generalize stE c s=e at *
  simp [ir52,h27,h,hb]
abbrev evs (l:List Evn):V:=.imm (l.map Evn.row)
def selE (kd:Int) (p:Nat→Bool) (k:Nat):List Evn:=((List.range k).filter p).map fun (i:Nat)=>⟨kd,i,false⟩
theorem selE_succ (kd:Int) (p:Nat→Bool) (k:Nat):selE kd p (k + 1)=if p k=true then selE kd p k++[⟨kd,k,false⟩] else selE kd p k:=by
 unfold selE
 rw [List.range_succ,List.filter_append,List.map_append]
 cases h:p k <;> simp [h]
theorem selE_len (kd:Int) (p:Nat→Bool) (k:Nat):(selE kd p k).length≤k:=by
 unfold selE
 rw [List.length_map]
 exact Nat.le_trans (List.length_filter_le _ _) (by simp)
theorem pendV_eq (s:Ste):pendV s=selE 0 (pendB s 0) s.ends.length++selE 1 (pendB s 1) s.timers.length:=rfl
abbrev h53 (s:Ste) (l:List Evn) (a:Nat × Nat):H:=[⟨0,.box s.cells⟩,o0,⟨a.1,.arr a.2 (l.map Evn.row)⟩]
def T53a (s:Ste) (k:Nat) (a:Nat × Nat):Tm:=[none,some (.bptr 0 0),some (.sl 1 0 0 0 0),some (.sl 2 a.1 a.2 0 (selE 0 (pendB s 0) k).length),some (num k)]++List.replicate 46 none
def T53b (s:Ste) (k:Nat) (a:Nat × Nat):Tm:=[none,some (.bptr 0 0),some (.sl 1 0 0 0 0),some (.sl 2 a.1 a.2 0 (selE 0 (pendB s 0) s.ends.length++selE 1 (pendB s 1) k).length),none,some (num k)]++List.replicate 45 none
abbrev gm3 (a:Nat × Nat):Prop:=a.2=3∨a.2=0
theorem lp53a (s:Ste) (hs:s.small) {st:St} (a0:Nat × Nat) (g0:gm3 a0) (h0:At (T53a s 0 a0) (h53 s (selE 0 (pendB s 0) 0) a0) st):∃ r,ev pg (.code (.going 3 L53_0) st)=some r∧∃ a,gm3 a∧EndsAs (.exit 0) (T53a s s.ends.length a) (h53 s (selE 0 (pendB s 0) s.ends.length) a) r:=by
 have hse:=hs.e
 refine loop_at s.ends.length (T53a s) (fun k a=>h53 s (selE 0 (pendB s 0) k) a) (fun _ a=>gm3 a) _ ?_ ?_ a0 g0 h0
 ·rintro k ⟨g,m⟩ f hf hk hG
  have hk':(k:Int) < s.ends.length:=by omega
  have wk:=wrap_id (n:=(k:Int) + 1) (by omega) (by omega)
  have hsl:=selE_len 0 (pendB s 0) k
  have hp:pendB s 0 k=(s.ends[k] == 1 || s.ends[k] == 3):=by
   unfold pendB; rw [if_pos rfl,List.getElem?_eq_getElem hk]; rfl
  unfold T53a h53
  rw [selE_succ,hp]
  generalize selE 0 (pendB s 0) k=B at *
  have hb1:(B.length + 1) * 24≤140737488355328:=by omega
  have hmm:m=3∨m=0:=hG
  by_cases h1:s.ends[k]=1
  ·rcases hmm with rfl | rfl <;> simp [L53_0,hk,hk',wk,h1,hb1,hf.ne]
  ·have h1b:(s.ends[k] == 1)=false:=by simpa using h1
   by_cases h3:s.ends[k]=3
   ·rcases hmm with rfl | rfl <;> simp [L53_0,hk,hk',wk,h3,hb1,hf.ne]
   ·have h3b:(s.ends[k] == 3)=false:=by simpa using h3
    rcases hmm with rfl | rfl <;> simp [L53_0,hk,hk',wk,h1,h1b,h3,h3b,hf.ne]
 ·rintro ⟨g,m⟩ f hf hG
  unfold T53a h53
  generalize selE 0 (pendB s 0) s.ends.length=B at *
  have hmm:m=3∨m=0:=hG
  rcases hmm with rfl | rfl <;> simp [L53_0,hf.ne]
theorem lp53b (s:Ste) (hs:s.small) {st:St} (a0:Nat × Nat) (g0:gm3 a0) (h0:At (T53b s 0 a0) (h53 s (selE 0 (pendB s 0) s.ends.length++selE 1 (pendB s 1) 0) a0) st):∃ r,ev pg (.code (.going 3 L53_1) st)=some r∧∃ a,gm3 a∧EndsAs (.exit 2) (T53b s s.timers.length a) (h53 s (pendV s) a) r:=by
 have hse:=hs.e
 have hst:=hs.t
 rw [pendV_eq]
 refine loop_at s.timers.length (T53b s) (fun k a=>h53 s (selE 0 (pendB s 0) s.ends.length++selE 1 (pendB s 1) k) a) (fun _ a=>gm3 a) _ ?_ ?_ a0 g0 h0
 ·rintro k ⟨g,m⟩ f hf hk hG
  have hk':(k:Int) < s.timers.length:=by omega
  have wk:=wrap_id (n:=(k:Int) + 1) (by omega) (by omega)
  have hsl:=selE_len 1 (pendB s 1) k
  have hsl0:=selE_len 0 (pendB s 0) s.ends.length
  have hp:pendB s 1 k=(s.timers[k] == 1):=by
   unfold pendB; rw [if_neg (by omega),List.getElem?_eq_getElem hk]; rfl
  unfold T53b h53
  rw [selE_succ,hp]
  generalize selE 0 (pendB s 0) s.ends.length=B0 at *
  generalize selE 1 (pendB s 1) k=B at *
  have hb1:(B0.length + (B.length + 1)) * 24≤140737488355328:=by omega
  have hmm:m=3∨m=0:=hG
  by_cases h1:s.timers[k]=1
  ·rcases hmm with rfl | rfl <;> simp [L53_1,hk,hk',wk,h1,hb1,hf.ne,Nat.add_assoc]
  ·have h1b:(s.timers[k] == 1)=false:=by simpa using h1
   rcases hmm with rfl | rfl <;> simp [L53_1,hk,hk',wk,h1,h1b,hf.ne]
 ·rintro ⟨g,m⟩ f hf hG
  unfold T53b h53
  generalize selE 0 (pendB s 0) s.ends.length++selE 1 (pendB s 1) s.timers.length=B at *
  have hmm:m=3∨m=0:=hG
  rcases hmm with rfl | rfl <;> simp [L53_1,hf.ne]
theorem ev53 (s:Ste) (hs:s.small):ev pg (.call (.fn 53 [] []) [s.v] [])=some { v:=evs (pendV s),st:=⟨[],[]⟩ }:=by
 have hl1:=@lp53a s hs
 have hl2:=@lp53b s hs
 have z:selE 1 (pendB s 1) 0=[]:=rfl
 have z0:selE 0 (pendB s 0) 0=[]:=rfl
 unfold T53b at hl2
 unfold T53a at hl1
 rw [z,List.append_nil,← pendV_eq] at hl2
 rw [z0] at hl1
 generalize selE 0 (pendB s 0) s.ends.length=B0 at *
 generalize pendV s=B at *
 rw [ev_call,pg53]
 simp [ir53,ev_loop]
 generalize hr:ev pg (.code (.going _ L53_0) _)=o
 obtain ⟨r,rfl,⟨g,m⟩,hm,f,hf,rfl⟩:∃ r,o=some r∧_:=by rw [← hr]; exact hl1 (0,0) (.inr rfl) (by simp)
 clear hr
 have hmm:m=3∨m=0:=hm
 rcases hmm with rfl | rfl <;> simp [hf.ne]
 ·generalize hr:ev pg (.code (.going _ L53_1) _)=o
  obtain ⟨r,rfl,⟨g2,m2⟩,hm2,f2,hf2,rfl⟩:∃ r,o=some r∧_:=by rw [← hr]; exact hl2 (g,3) (.inl rfl) (by simp [hf.ne])
  clear hr
  have hmm2:m2=3∨m2=0:=hm2
  rcases hmm2 with rfl | rfl <;> simp
 ·generalize hr:ev pg (.code (.going _ L53_1) _)=o
  obtain ⟨r,rfl,⟨g2,m2⟩,hm2,f2,hf2,rfl⟩:∃ r,o=some r∧_:=by rw [← hr]; exact hl2 (g,0) (.inr rfl) (by simp [hf.ne])
  clear hr
  have hmm2:m2=3∨m2=0:=hm2
  rcases hmm2 with rfl | rfl <;> simp
def eventsR (c:Ct) (s:Ste):List Evn × Int:=if quE c s=0 then (pendV s,0) else ([],quE c s)
theorem ev14 (c:Ct) (s:Ste) (hfew:c.small=true) (hs:s.small):ev pg (.call (.fn 14 [] []) [c.v,s.v] [])=some { v:=.tup [evs (eventsR c s).1,num (eventsR c s).2],st:=⟨[],[]⟩ }:=by
 have h52:=ev52 c s hfew hs
 have h53:=ev53 s hs
 unfold eventsR
 rw [ev_call,pg14]
 by_cases h:quE c s=0
 ·rw [if_pos h]
  rw [h] at h52
  generalize pendV s=p at *
  simp [ir14,h52,h53]
 ·rw [if_neg h]
  have hb:(quE c s == 0)=false:=by simpa using h
  generalize quE c s=e at *
  simp [ir14,h52,h,hb]
theorem norm_right {N:Nat} {l m:List Int}:norm N (l++norm N m)=norm N (l++m) :=
 norm_congr fun x h1 h2=>by rw [List.mem_append,List.mem_append,mem_norm]; exact ⟨fun a=>a.elim .inl (fun b=>.inr b.1),fun a=>a.elim .inl (fun b=>.inr ⟨b,h1,h2⟩)⟩
theorem roundV_none {c:Ct} {s:Ste}:roundV c s=none ↔ settleV c s=none:=by
 unfold roundV
 cases settleV c s <;> simp
abbrev h16 (c:Ct) (k:Nat) (a:Ste × List Int):H:=[⟨0,.box c.cells⟩,⟨0,.box a.1.cells⟩,o0,o0,o0,o0,o0,⟨0,.box (nil5 2)⟩,o0,ob0 k]
def T16 (k:Nat) (a:Ste × List Int):Tm:=[none,none,some (.bptr 0 0),some (.bptr 1 0),some (.bptr 7 0),some (.sl 8 0 0 0 0),some (num 0),none,some (sl0 k a.2),none,none,none,none,none,none,none,none,none,none,some (num k)]++List.replicate 23 none
def T16r (m:List Int):Tm:=[none,none,none,none,some (.bptr 7 0),some (ints m),some (num 0)]++List.replicate 36 none
abbrev h16n (c:Ct) (k:Nat) (s t:Ste):H:=[⟨0,.box c.cells⟩,⟨0,.box s.cells⟩,o0,o0,o0,o0,o0,⟨0,.box (nil5 16)⟩,o0,ob0 k,o0,o0,o0,o0,o0,⟨0,.box t.cells⟩,o0,o0,o0,o0,o0]
def T16n:Tm:=[none,none,none,none,some (.bptr 7 0),some .nils,some (num 21)]++List.replicate 36 none
def Out16 (c:Ct) (Z:Option (Ste × List Int)) (r:R):Prop:=match Z with
 | some (t,m)=>EndsAs .ret (T16r m) (h86r c t) r
 | none=>(∃ k s t,EndsAs .ret T16n (h16n c k s t) r)∨∃ a,EndsAs (.exit 0) (T16 65 a) (h16 c 65 a) r
theorem confS_in {c:Ct} {t:Ste} {m:List Int} (hm:Lin (countN c c.act.toNat) m):∀ x ∈ m++confS c t,0≤x∧x < (allN c:Nat):=by
 intro x hx
 rcases List.mem_append.1 hx with h | h
 ·exact (hm.mono (by unfold allN; omega)).b x h
 ·exact (confS_lin c t).b x h
set_option maxHeartbeats 1000000 in
theorem lp16 {c:Ct} {s:Ste} (hs:Rdy c s) {st:St} (h0:At (T16 0 (s,[])) (h16 c 0 (s,[])) st):∃ r,ev pg (.code (.going 10 L16_0) st)=some r∧Out16 c (restV c s) r:=by
 generalize hR:restV c s=Z
 refine loop_at 65 T16 (h16 c) (G86 c Z) _ ?_ ?_ (s,[]) ⟨hR,hs,Lin.nil _,fun _=>rfl⟩ h0
 ·rintro k ⟨t,l⟩ f hf hk hG
  have hgo:=hG.go
  have hrd:=hG.rdy
  have hl:=hG.lin
  have hn:=hG.nil
  simp only at hgo hrd hl hn
  have hk':(k:Int) < 65:=by omega
  have wk:=wrap_id (n:=(k:Int) + 1) (by omega) (by omega)
  have w1:IntKind.i64.wrap 1=1:=by decide
  have hN:=allN_le hrd.mid
  rw [show 65 - k=(64 - k) + 1 by omega,restGo] at hgo
  cases hZ:settleV c t with
  | none =>
   have e46:=ev46_none hrd hZ
   rw [roundV_none.2 hZ] at hgo
   simp only at hgo
   subst hgo
   simp [T16,L16_0,hk',e46,hf.ne]
   exact .inl ⟨k,t,zeroS,by simp [T16n,hf.ne,zeroS,sl0_ne]⟩
  | some x =>
   obtain ⟨v,m⟩:=x
   have e46:=ev46_some hrd hZ
   have hrv:roundV c t=some (goesS (valvS c v),norm (allN c) (m++confS c v)):=by unfold roundV; rw [hZ]; rfl
   rw [hrv] at hgo
   simp only at hgo
   have hru:=hrd.round hrv
   have hml:=settleV_lin hZ
   have hin:=confS_in (t:=v) hml
   have hmn:=hml.len
   have hcn:=(confS_lin c v).len
   have hln:=hl.len
   have e54:=ev54 (allN c) l (m++confS c v) (by omega) (by simp; unfold allN at hN hcn; omega) (fun x hx=>(List.mem_append.1 hx).elim (hl.b x) (hin x))
   rw [norm_right] at hgo
   have hl':Lin (allN c) (norm (allN c) (l++(m++confS c v))):=Lin.norm _ _
   have e47:=ev47 (goesS (valvS c v)) t hru.small
   rw [sameT_comm] at e47
   generalize norm (allN c) (l++(m++confS c v))=p at *
   generalize m++confS c v=q at *
   generalize goesS (valvS c v)=u at *
   by_cases hst:sameT t u=true
   ·rw [if_pos hst] at hgo
    rw [hst] at e47
    subst hgo
    obtain rfl:=sameT_iff.1 hst
    unfold T16 sl0 h16 ob0
    by_cases hk0:k=0
    ·subst hk0
     rw [hn rfl] at e54
     have e54':ev pg (.call (.fn 54 [] []) [.imm [],ints q] [])=_:=e54
     simp [L16_0,e46,e54',e47,hf.ne]
     simp [Out16,T16r,hf.ne]
    ·simp [L16_0,hk0,hk',e46,e54,e47,hf.ne]
     simp [Out16,T16r,hf.ne]
   ·have hsf:sameT t u=false:=by simpa using hst
    rw [if_neg hst] at hgo
    rw [hsf] at e47
    have hG':G86 c Z (k + 1) (u,p):=⟨by rw [← hgo,show 65 - (k + 1)=64 - k by omega],hru,hl',by omega⟩
    unfold T16 sl0 h16 ob0
    by_cases hk0:k=0
    ·subst hk0
     rw [hn rfl] at e54
     have e54':ev pg (.call (.fn 54 [] []) [.imm [],ints q] [])=_:=e54
     simp [L16_0,e46,e54',e47,w1,hf.ne]
     exact ⟨u,p,hG',by simp⟩
    ·simp [L16_0,hk0,hk',wk,e46,e54,e47,hf.ne]
     exact ⟨u,p,hG',by simp⟩
 ·rintro ⟨t,l⟩ f hf hG
  have hgo:=hG.go
  simp only [Nat.sub_self,restGo] at hgo
  subst hgo
  simp [T16,L16_0]
  exact .inr ⟨(t,l),by simp [T16,hf.ne]⟩
theorem ev16 (c:Ct) (s:Ste) (hfew:c.small=true) (hs:s.small):ev pg (.call (.fn 16 [] []) [c.v,s.v] [])=some { v:=outV (restR c s),st:=⟨[],[]⟩ }:=by
 have e45:=ev45 c s hfew hs
 unfold restR
 rw [ev_call,pg16]
 by_cases h:stE c s=0
 ·have hl:=@lp16 c s ⟨hfew,h⟩
  rw [if_pos h]
  rw [h] at e45
  unfold restE
  generalize restV c s=Z at *
  simp [ir16,e45,ev_loop]
  generalize hr:ev pg (.code (.going _ L16_0) _)=o
  obtain ⟨r,rfl,hQ⟩:∃ r,o=some r∧_:=by rw [← hr]; exact hl (by simp [T16,sl0,ob0])
  clear hr
  cases Z with
  | none =>
   rcases hQ with ⟨k,s,t,f,hf,rfl⟩ | ⟨⟨s,l⟩,f,hf,rfl⟩
   ·simp [T16n,zeroS]
   ·simp [T16,zeroS,ob0]
  | some p =>
   obtain ⟨t,m⟩:=p
   obtain ⟨f,hf,rfl⟩:=hQ
   simp [T16r]
 ·rw [if_neg h]
  have hb:(stE c s == 0)=false:=by simpa using h
  generalize stE c s=e at *
  simp [ir16,e45,h,hb,zeroS]
theorem ev11 (c:Ct) (s:Ste) (hfew:c.small=true) (hs:s.small):ev pg (.call (.fn 11 [] []) [c.v,s.v] [])=some { v:=.tup [.bool (quietR c s).1,num (quietR c s).2],st:=⟨[],[]⟩ }:=by
 have e45:=ev45 c s hfew hs
 unfold quietR
 rw [ev_call,pg11]
 by_cases h:stE c s=0
 ·have hR:Rdy c s:=⟨hfew,h⟩
  rw [if_pos h]
  rw [h] at e45
  unfold stillB
  cases hZ:settleV c s with
  | none =>
   have e46:=ev46_none hR hZ
   rw [roundV_none.2 hZ]
   simp [ir11,e45,e46,zeroS]
  | some x =>
   obtain ⟨v,m⟩:=x
   have e46:=ev46_some hR hZ
   have hrv:roundV c s=some (goesS (valvS c v),norm (allN c) (m++confS c v)):=by unfold roundV; rw [hZ]; rfl
   have e47:=ev47 (goesS (valvS c v)) s (hR.round hrv).small
   rw [sameT_comm] at e47
   rw [hrv]
   simp only [Option.map_some,Option.getD_some]
   generalize sameT s (goesS (valvS c v))=b at *
   generalize goesS (valvS c v)=u at *
   simp [ir11,e45,e46,e47]
 ·rw [if_neg h]
  have hb:(stE c s == 0)=false:=by simpa using h
  generalize stE c s=e at *
  simp [ir11,e45,h,hb]
theorem ev49 (c:Ct) (s:Ste) (hfew:c.small=true) (hs:s.small):ev pg (.call (.fn 49 [] []) [c.v,s.v] [])=some { v:=num (quE c s),st:=⟨[],[]⟩ }:=by
 have e11:=ev11 c s hfew hs
 unfold quietR at e11
 unfold quE
 rw [ev_call,pg49]
 by_cases h:stE c s=0
 ·rw [if_pos h] at e11 ⊢
  simp only at e11
  cases hb:stillB c s <;> rw [hb] at e11 <;> simp [ir49,e11]
 ·rw [if_neg h] at e11 ⊢
  simp only at e11
  have hb:(stE c s == 0)=false:=by simpa using h
  generalize stE c s=e at *
  simp [ir49,e11,h,hb]
abbrev sl84:List V:=[.sl 5 0 0 0 0,.fn 85 [] [.bptr 2 0],.bptr 4 0,.undef,.sl 6 0 0 0 0,.undef,.fn 85 [] [.bptr 2 0],.undef,.undef,.undef,.undef,.undef,.undef]
abbrev Mp (c:Ct) (s:Ste) (l:List Evn) (a:Nat × Nat):H:=[⟨0,.box c.cells⟩,⟨0,.box s.cells⟩,⟨0,.box s.cells⟩,⟨a.1,.arr a.2 (l.map Evn.row)⟩,⟨0,.box [.sl 3 a.1 a.2 0 l.length]⟩,o0,o0,⟨0,.loop sl84 [7] L84_0 L84_1 none⟩]
theorem yld85 (c:Ct) (s:Ste) (l:List Evn) (a:Nat × Nat) (ha:gm3 a) (hl:l.length≤100000) (x:Evn):ev pg (.call (.yld 7) [.agg x.row] (Mp c s l a))=some { v:=.bool true,st:=⟨[],Mp c s (l++[x]) (a.1 + 1,3)⟩ }:=by
 obtain ⟨g,m⟩:=a
 have hb:(l.length + 1) * 24≤140737488355328:=by omega
 have hmm:m=3∨m=0:=ha
 rw [ev_eq]
 rcases hmm with rfl | rfl <;> simp [stepQ,L84_0,L84_1,hb]
def T85a (s:Ste) (k:Nat):Tm:=[some (.yld 7),some (.bptr 2 0),none,none,none,none,none,none,some (ints s.ends),some (num s.ends.length),some (num k)]++List.replicate 36 none
def T85b (s:Ste) (k:Nat):Tm:=[some (.yld 7),some (.bptr 2 0)]++List.replicate 28 none++[some (ints s.timers),some (num s.timers.length),some (num k)]++List.replicate 14 none
theorem lp85a (c:Ct) (s:Ste) (hs:s.small) {st:St} (a0:Nat × Nat) (g0:gm3 a0) (h0:At (T85a s 0) (Mp c s (selE 0 (pendB s 0) 0) a0) st):∃ r,ev pg (.code (.going 8 L85_0) st)=some r∧∃ a,gm3 a∧EndsAs (.exit 0) (T85a s s.ends.length) (Mp c s (selE 0 (pendB s 0) s.ends.length) a) r:=by
 have hse:=hs.e
 refine loop_at s.ends.length (fun k _=>T85a s k) (fun k a=>Mp c s (selE 0 (pendB s 0) k) a) (fun _ a=>gm3 a) _ ?_ ?_ a0 g0 h0
 ·rintro k a f hf hk hG
  have hk':(k:Int) < s.ends.length:=by omega
  have wk:=wrap_id (n:=(k:Int) + 1) (by omega) (by omega)
  have hsl:=selE_len 0 (pendB s 0) k
  have hp:pendB s 0 k=(s.ends[k] == 1 || s.ends[k] == 3):=by
   unfold pendB; rw [if_pos rfl,List.getElem?_eq_getElem hk]; rfl
  have hy:=yld85 c s (selE 0 (pendB s 0) k) a hG (by omega) ⟨0,k,false⟩
  have hG':gm3 (a.1 + 1,3):=.inl rfl
  have hGa:gm3 a:=hG
  rw [selE_succ,hp]
  generalize selE 0 (pendB s 0) k=B at *
  unfold T85a
  obtain ⟨g,m⟩:=a
  have hmm:m=3∨m=0:=hGa
  by_cases h1:s.ends[k]=1
  ·rcases hmm with rfl | rfl <;> simp [L85_0,hk,hk',wk,h1,hy,hf.ne]
  ·have h1b:(s.ends[k] == 1)=false:=by simpa using h1
   by_cases h3:s.ends[k]=3
   ·rcases hmm with rfl | rfl <;> simp [L85_0,hk,hk',wk,h3,hy,hf.ne]
   ·have h3b:(s.ends[k] == 3)=false:=by simpa using h3
    rcases hmm with rfl | rfl <;> simp [L85_0,hk,hk',wk,h1,h1b,h3,h3b,hf.ne]
 ·rintro ⟨g,m⟩ f hf hG
  unfold T85a
  generalize selE 0 (pendB s 0) s.ends.length=B at *
  have hmm:m=3∨m=0:=hG
  rcases hmm with rfl | rfl <;> simp [L85_0,hf.ne]
theorem lp85b (c:Ct) (s:Ste) (hs:s.small) {st:St} (a0:Nat × Nat) (g0:gm3 a0) (h0:At (T85b s 0) (Mp c s (selE 0 (pendB s 0) s.ends.length++selE 1 (pendB s 1) 0) a0) st):∃ r,ev pg (.code (.going 8 L85_1) st)=some r∧∃ a,gm3 a∧EndsAs (.exit 2) (T85b s s.timers.length) (Mp c s (pendV s) a) r:=by
 have hse:=hs.e
 have hst:=hs.t
 rw [pendV_eq]
 refine loop_at s.timers.length (fun k _=>T85b s k) (fun k a=>Mp c s (selE 0 (pendB s 0) s.ends.length++selE 1 (pendB s 1) k) a) (fun _ a=>gm3 a) _ ?_ ?_ a0 g0 h0
 ·rintro k a f hf hk hG
  have hk':(k:Int) < s.timers.length:=by omega
  have wk:=wrap_id (n:=(k:Int) + 1) (by omega) (by omega)
  have hsl:=selE_len 1 (pendB s 1) k
  have hsl0:=selE_len 0 (pendB s 0) s.ends.length
  have hp:pendB s 1 k=(s.timers[k] == 1):=by
   unfold pendB; rw [if_neg (by omega),List.getElem?_eq_getElem hk]; rfl
  have hy:=yld85 c s (selE 0 (pendB s 0) s.ends.length++selE 1 (pendB s 1) k) a hG (by simp; omega) ⟨1,k,false⟩
  have hGa:gm3 a:=hG
  rw [selE_succ,hp]
  generalize selE 0 (pendB s 0) s.ends.length=B0 at *
  generalize selE 1 (pendB s 1) k=B at *
  unfold T85b
  obtain ⟨g,m⟩:=a
  have hmm:m=3∨m=0:=hGa
  by_cases h1:s.timers[k]=1
  ·rcases hmm with rfl | rfl <;> simp [L85_1,hk,hk',wk,h1,hy,Nat.add_assoc,hf.ne]
  ·have h1b:(s.timers[k] == 1)=false:=by simpa using h1
   rcases hmm with rfl | rfl <;> simp [L85_1,hk,hk',wk,h1,h1b,hf.ne]
 ·rintro ⟨g,m⟩ f hf hG
  unfold T85b
  generalize selE 0 (pendB s 0) s.ends.length++selE 1 (pendB s 1) s.timers.length=B at *
  have hmm:m=3∨m=0:=hG
  rcases hmm with rfl | rfl <;> simp [L85_1,hf.ne]
theorem ev85 (c:Ct) (s:Ste) (hs:s.small):∃ a,gm3 a∧ev pg (.call (.fn 85 [] [.bptr 2 0]) [.yld 7] (Mp c s [] (0,0)))=some { v:=.tup [],st:=⟨[],Mp c s (pendV s) a⟩ }:=by
 have hl1:=@lp85a c s hs
 have hl2:=@lp85b c s hs
 have z:selE 1 (pendB s 1) 0=[]:=rfl
 have z0:selE 0 (pendB s 0) 0=[]:=rfl
 rw [z,List.append_nil] at hl2
 rw [z0] at hl1
 generalize selE 0 (pendB s 0) s.ends.length=B0 at *
 generalize pendV s=B at *
 have key:∃ r a,ev pg (.call (.fn 85 [] [.bptr 2 0]) [.yld 7] (Mp c s [] (0,0)))=some r∧gm3 a∧r={ v:=.tup [],st:=⟨[],Mp c s B a⟩ }:=by
  rw [ev_call,pg85]
  simp [ir85,ev_loop]
  generalize hr:ev pg (.code (.going _ L85_0) _)=o
  obtain ⟨r,rfl,⟨g,m⟩,hm,f,hf,rfl⟩:∃ r,o=some r∧_:=by rw [← hr]; exact hl1 (0,0) (.inr rfl) (by simp [T85a])
  clear hr
  have hmm:m=3∨m=0:=hm
  rcases hmm with rfl | rfl <;> simp [T85a,hf.ne]
  ·generalize hr:ev pg (.code (.going _ L85_1) _)=o
   obtain ⟨r,rfl,⟨g2,m2⟩,hm2,f2,hf2,rfl⟩:∃ r,o=some r∧_:=by rw [← hr]; exact hl2 (g,3) (.inl rfl) (by simp [T85b,hf.ne])
   clear hr
   have hmm2:m2=3∨m2=0:=hm2
   rcases hmm2 with rfl | rfl <;> simp [T85b]
   all_goals first | exact ⟨g2,3,.inl rfl,by simp⟩ | exact ⟨g2,0,.inr rfl,by simp⟩
  ·generalize hr:ev pg (.code (.going _ L85_1) _)=o
   obtain ⟨r,rfl,⟨g2,m2⟩,hm2,f2,hf2,rfl⟩:∃ r,o=some r∧_:=by rw [← hr]; exact hl2 (g,0) (.inr rfl) (by simp [T85b,hf.ne])
   clear hr
   have hmm2:m2=3∨m2=0:=hm2
   rcases hmm2 with rfl | rfl <;> simp [T85b]
   all_goals first | exact ⟨g2,3,.inl rfl,by simp⟩ | exact ⟨g2,0,.inr rfl,by simp⟩
 obtain ⟨r,a,e,ha,rfl⟩:=key
 exact ⟨a,ha,e⟩
theorem ev84 (c:Ct) (s:Ste) (hs:s.small):ev pg (.call (.fn 84 [] []) [.nils,.fn 85 [] [.bptr 2 0]] [⟨0,.box c.cells⟩,⟨0,.box s.cells⟩,⟨0,.box s.cells⟩])=some { v:=evs (pendV s),st:=⟨[],[⟨0,.box c.cells⟩,⟨0,.box s.cells⟩,⟨0,.box s.cells⟩]⟩ }:=by
 obtain ⟨⟨g,m⟩,hm,e85⟩:=ev85 c s hs
 generalize pendV s=B at *
 have hmm:m=3∨m=0:=hm
 have e85':ev pg (.call (.fn 85 [] [.bptr 2 0]) [.yld 7] [⟨0,.box c.cells⟩,⟨0,.box s.cells⟩,⟨0,.box s.cells⟩,o0,⟨0,.box [.sl 3 0 0 0 0]⟩,o0,o0,⟨0,.loop sl84 [7] L84_0 L84_1 none⟩])=_:=e85
 rw [ev_call,pg84]
 rcases hmm with rfl | rfl <;> simp [ir84,ev_range,e85']
theorem ev50 (c:Ct) (s:Ste) (hs:s.small):ev pg (.call (.fn 50 [] []) [.fn 85 [] [.bptr 2 0]] [⟨0,.box c.cells⟩,⟨0,.box s.cells⟩,⟨0,.box s.cells⟩])=some { v:=evs (pendV s),st:=⟨[],[⟨0,.box c.cells⟩,⟨0,.box s.cells⟩,⟨0,.box s.cells⟩]⟩ }:=by
 have e84:=ev84 c s hs
 generalize pendV s=B at *
 rw [ev_call,pg50]
 simp [ir50,e84]
theorem ev51 (c:Ct) (s:Ste):ev pg (.call (.fn 51 [] []) [s.v] [⟨0,.box c.cells⟩,⟨0,.box s.cells⟩])=some { v:=.fn 85 [] [.bptr 2 0],st:=⟨[],[⟨0,.box c.cells⟩,⟨0,.box s.cells⟩,⟨0,.box s.cells⟩]⟩ }:=by
 rw [ev_call,pg51]
 simp [ir51]
theorem ev13 (c:Ct) (s:Ste) (hfew:c.small=true) (hs:s.small):ev pg (.call (.fn 13 [] []) [c.v,s.v] [])=some { v:=.tup [evs (eventsR c s).1,num (eventsR c s).2],st:=⟨[],[]⟩ }:=by
 have e49:=ev49 c s hfew hs
 have e50:=ev50 c s hs
 have e51:=ev51 c s
 unfold eventsR
 rw [ev_call,pg13]
 by_cases h:quE c s=0
 ·rw [if_pos h]
  rw [h] at e49
  generalize pendV s=p at *
  simp [ir13,e49,e50,e51]
 ·rw [if_neg h]
  have hb:(quE c s == 0)=false:=by simpa using h
  generalize quE c s=e at *
  simp [ir13,e49,h,hb]
end Go.Proofs.YtbhkplbciajikaaGreat
