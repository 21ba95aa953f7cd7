/- The signals come to rest, by the reference: the inner loops. The signals come to rest, by the reference: the rounds. The signals come to rest, by the reference. Actuators begin to go, by the reference. The valves take their pilots, by the reference. -/
import Derived.Test.YtbhkplbciajikaaGreatOn2
import Derived.KernelRfl
set_option linter.all false
namespace Go.Proofs.YtbhkplbciajikaaGreat
open Go Go.Am Go.Proofs
set_option maxRecDepth 100000
def seenM (L:List Int):List (V × V):=L.map fun k=>(num k,V.bool true)
def addS (L:List Int) (k:Int):List Int:=if k ∈ L then L else L++[k]
theorem upd_seen (k:Int):∀ L:List Int,updL (seenM L) (num k) (.bool true)=some (seenM (addS L k))
 | []=>by simp [seenM,addS,updL]
 | a :: L=>by
  have ih:=upd_seen k L
  unfold seenM at *
  simp only [List.map_cons,updL,eqS,if_true]
  by_cases h:k=a
  ·subst h
   simp [addS]
  ·have hb:(k == a)=false:=by simpa using h
   rw [hb]
   simp only
   rw [ih]
   unfold addS
   by_cases hm:k ∈ L
   ·simp [hm]
   ·simp [hm,h]
theorem find_seen (k:Int):∀ L:List Int,findE (seenM L) (num k)=some (if k ∈ L then some (.bool true) else none)
 | []=>by simp [seenM,findE]
 | a :: L=>by
  have ih:=find_seen k L
  unfold seenM at *
  simp only [List.map_cons,findE,eqS,if_true]
  by_cases h:k=a
  ·subst h
   simp
  ·have hb:(k == a)=false:=by simpa using h
   rw [hb]
   simp only
   rw [ih]
   simp [h]
def addsS (L l:List Int):List Int:=l.foldl addS L
theorem mem_addS {L:List Int} {k x:Int}:x ∈ addS L k ↔ x ∈ L∨x=k:=by
 unfold addS
 split
 ·exact ⟨.inl,fun h=>h.elim id fun h=>by rw [h]; assumption⟩
 ·simp
theorem mem_addsS:∀ {l L:List Int} {x:Int},x ∈ addsS L l ↔ x ∈ L∨x ∈ l
 | [],L,x=>by simp [addsS]
 | k :: l,L,x=>by
  have:=@mem_addsS l (addS L k) x
  unfold addsS at *
  rw [List.foldl_cons,this,mem_addS,List.mem_cons,or_assoc]
theorem addsS_succ {L l:List Int} {k:Nat} (hk:k < l.length):addsS L (l.take (k + 1))=addS (addsS L (l.take k)) l[k]:=by
 unfold addsS
 rw [List.take_succ_eq_append_getElem hk,List.foldl_append]
 rfl
abbrev h151 (c:Ct) (s t:Ste) (L:List Int):H:=[⟨0,.box c.cells⟩,⟨0,.box s.cells⟩,o0,o0,o0,o0,o0,⟨0,.box (nil5 2)⟩,⟨0,.map (seenM L)⟩,o0,o0,o0,o0,o0,o0,⟨0,.box t.cells⟩]
def T151a (n:Nat) (l:List Int) (k:Nat):Tm:=[none,none,some (.bptr 0 0),some (.bptr 1 0),some (.bptr 7 0),some (.sl 9 0 0 0 0),some (num 0),some (.bool false),some (.map 8),some (num n),some (.bptr 15 0),some (ints l),some (num k)]++List.replicate 45 none
theorem lp151a (c:Ct) (s t:Ste) (n:Nat) (L l:List Int) (hl:l.length≤4096) {st:St} (h0:At (T151a n l 0) (h151 c s t (addsS L (l.take 0))) st):∃ r,ev pg (.code (.going 16 L151_0) st)=some r∧EndsAs (.exit 2) (T151a n l l.length) (h151 c s t (addsS L (l.take l.length))) r:=by
 refine loop_pic l.length (T151a n l) (fun k=>h151 c s t (addsS L (l.take k))) _ ?_ ?_ h0
 ·intro k f hf hk
  have hk':(k:Int) < l.length:=by omega
  have wk:=wrap_id (n:=(k:Int) + 1) (by omega) (by omega)
  simp only [addsS_succ hk]
  have hu:=upd_seen l[k] (addsS L (l.take k))
  generalize addsS L (l.take k)=M at *
  simp [T151a,L151_0,hk,hk',wk,hu,hf.ne]
 ·intro f hf
  generalize addsS L (l.take l.length)=M at *
  simp [T151a,L151_0,hf.ne]
abbrev inM (L:List Int) (k:Nat):List Int:=selL (fun j=>L.contains (j:Int)) 0 k
abbrev h151b (c:Ct) (s t:Ste) (L:List Int) (k:Nat) (a:Nat × Nat):H:=h151 c s t L++[⟨a.1,.arr a.2 ((inM L k).map nrow)⟩]
def T151b (n:Nat) (l:List Int) (L:List Int) (k:Nat) (a:Nat × Nat):Tm:=[none,none,some (.bptr 0 0),some (.bptr 1 0),some (.bptr 7 0),some (.sl 9 0 0 0 0),some (num 0),some (.bool false),some (.map 8),some (num n),some (.bptr 15 0),some (ints l),some (num l.length),some (.sl 16 a.1 a.2 0 (inM L k).length),some (num k)]++List.replicate 43 none
theorem lp151b (c:Ct) {A:Nat} (hM:Mid c A) (s t:Ste) (n:Nat) (l L:List Int) {st:St} (a0:Nat × Nat) (g0:a0.2=1∨a0.2=0) (h0:At (T151b n l L 0 a0) (h151b c s t L 0 a0) st):∃ r,ev pg (.code (.going 17 L151_1) st)=some r∧∃ a:Nat × Nat,(a.2=1∨a.2=0)∧EndsAs (.exit 4) (T151b n l L (countN c A) a) (h151b c s t L (countN c A) a) r:=by
 have hn1:=hM.sig
 have hn2:=hM.inp
 have hn3:=hM.hi
 have hN:countN c A≤172:=by unfold countN; omega
 have h102:=ev102 hM
 generalize countN c A=N at *
 refine loop_at N (T151b n l L) (h151b c s t L) (fun _ a=>a.2=1∨a.2=0) _ ?_ ?_ a0 g0 h0
 ·rintro k ⟨g,m⟩ f hf hk hG
  have hk':(k:Int) < N:=by omega
  have wk:=wrap_id (n:=(k:Int) + 1) (by omega) (by omega)
  have hfd:=find_seen (k:Int) L
  have e3:=selL_succ (fun j=>L.contains (j:Int)) 0 k
  have hsl:=selL_len (fun j=>L.contains (j:Int)) 0 k
  unfold T151b h151b inM
  rw [e3]
  generalize selL (fun j=>L.contains (j:Int)) 0 k=B at *
  have hb1:(B.length + 1) * 8≤140737488355328:=by omega
  have hmm:m=1∨m=0:=hG
  by_cases hm:(k:Int) ∈ L
  ·rw [if_pos hm] at hfd
   rcases hmm with rfl | rfl <;> simp [L151_1,hk,hk',wk,h102,hfd,hm,hb1,hf.ne]
  ·rw [if_neg hm] at hfd
   rcases hmm with rfl | rfl <;> simp [L151_1,hk,hk',wk,h102,hfd,hm,hf.ne]
 ·rintro ⟨g,m⟩ f hf hG
  unfold T151b h151b
  generalize inM L N=B at *
  have hmm:m=1∨m=0:=hG
  rcases hmm with rfl | rfl <;> simp [L151_1,h102,hf.ne]
abbrev h151o (c:Ct) (s:Ste) (L:List Int):H:=[⟨0,.box c.cells⟩,⟨0,.box s.cells⟩,o0,o0,o0,o0,o0,⟨0,.box (nil5 2)⟩,⟨0,.map (seenM L)⟩,o0]
def T151 (k:Nat):Tm:=[none,none,some (.bptr 0 0),some (.bptr 1 0),some (.bptr 7 0),some (.sl 9 0 0 0 0),some (num 0),some (.bool false),some (.map 8),some (num k)]++List.replicate 48 none
abbrev h151r (c:Ct) (t:Ste) (M:List Int) (u:Ste) (m:List Int) (a:Nat × Nat):H:=[⟨0,.box c.cells⟩,⟨0,.box t.cells⟩,o0,o0,o0,o0,o0,⟨0,.box t.cells⟩,⟨0,.map (seenM M)⟩,o0,o0,o0,o0,o0,o0,⟨0,.box u.cells⟩,⟨a.1,.arr a.2 (m.map nrow)⟩]
def T151r (n:Nat) (j:Nat) (a:Nat × Nat):Tm:=[none,none,none,none,some (.bptr 7 0),some (.sl 16 a.1 a.2 0 j),some (num n),some (.bool true)]++List.replicate 50 none
def Out151 (c:Ct) (Z:Option (Ste × List Int)) (r:R):Prop:=match Z with
 | some (t,m)=>∃ (M:List Int) (u:Ste) (n:Nat) (a:Nat × Nat),(a.2=1∨a.2=0)∧EndsAs .ret (T151r n m.length a) (h151r c t M u m a) r
 | none=>∃ (t:Ste) (M:List Int),EndsAs (.exit 0) (T151 65) (h151o c t M) r
structure G151 (c:Ct) (s:Ste) (N:Nat) (Z:Option (Ste × List Int)) (k:Nat) (a:Ste × List Int × List Int):Prop where
 go:settleGo c N (65 - k) a.1 a.2.2=Z
 mem:∀ x,x ∈ a.2.1 ↔ x ∈ a.2.2
 small:a.1.small
 shp:Shp c a.1
 len:(linesV a.1).length=(linesV s).length
theorem once_shp {c:Ct} {s:Ste} (hs:s.small) (hS:Shp c s):(onceV c s).small∧Shp c (onceV c s)∧(linesV (onceV c s)).length=(linesV s).length:=by
 have hgl:=gated_len (c:=c) s
 have hlen:(turns c (gated c s)).length=c.signals.length:=turnL_len _ (by rw [hgl]; exact hS.v) hS.t
 have v1:(onceV c s).values.length=s.values.length:=by
  show ((turns c (gated c s)).map Prod.fst).length=_
  rw [List.length_map,hlen,hS.v]
 have t1:(onceV c s).timers.length=s.timers.length:=by
  show ((turns c (gated c s)).map Prod.snd).length=_
  rw [List.length_map,hlen,hS.t]
 refine ⟨⟨hs.e,hs.w,hs.i,by rw [v1]; exact hs.v,by rw [t1]; exact hs.t⟩,⟨hS.e,hS.w,hS.i,by rw [v1]; exact hS.v,by rw [t1]; exact hS.t⟩,?_⟩
 rw [linesV_len,linesV_len,v1]
 rfl
set_option maxHeartbeats 1000000 in
theorem lp151 (c:Ct) {A:Nat} (hM:Mid c A) (s:Ste) (hs:s.small) (hS:Shp c s) (hok:∀ x ∈ c.signals,SigOk (linesV s).length x) {st:St} (h0:At (T151 0) (h151o c s []) st):∃ r,ev pg (.code (.going 10 L151_2) st)=some r∧Out151 c (settleGo c (countN c A) 65 s []) r:=by
 generalize hR:settleGo c (countN c A) 65 s []=Z
 refine loop_at 65 (fun k _=>T151 k) (fun _ a=>h151o c a.1 a.2.1) (G151 c s (countN c A) Z) _ ?_ ?_ (s,[],[]) ⟨hR,fun _=>Iff.rfl,hs,hS,rfl⟩ h0
 ·rintro k ⟨t,L,l⟩ f hf hk hG
  have hgo:=hG.go
  have hmem:=hG.mem
  have hsm:=hG.small
  have hsh:=hG.shp
  have hln:=hG.len
  simp only at hgo hmem hsm hsh hln
  have hk':(k:Int)≤64:=by omega
  have wk:=wrap_id (n:=(k:Int) + 1) (by omega) (by omega)
  have h166:=ev166 c t hM hsm hsh (fun x hx=>by rw [hln]; exact hok x hx)
  obtain ⟨o1,o2,o3⟩:=once_shp hsm hsh
  have h20:=ev20 (onceV c t) t o1
  rw [show 65 - k=(64 - k) + 1 by omega,settleGo] at hgo
  have hbl:(badS c t).length≤4096:=by
   have:=selL_len (badF c (linesV (gated c t))) (firstS t) c.signals.length
   have:=hM.sig
   unfold badS
   omega
  have la:=@lp151a c t (onceV c t) k L (badS c t) hbl
  have hmem':∀ x,x ∈ addsS L (badS c t) ↔ x ∈ l++badS c t:=fun x=>by rw [mem_addsS,hmem,List.mem_append]
  have hnorm:inM (addsS L (badS c t)) (countN c A)=norm (countN c A) (l++badS c t):=norm_congr fun x _ _=>hmem' x
  have lb:=@lp151b c A hM t (onceV c t) k (badS c t) (addsS L (badS c t))
  unfold T151b h151b at lb
  rw [hnorm,show inM (addsS L (badS c t)) 0=[] from rfl] at lb
  rw [List.take_length,List.take_zero,show addsS L []=L from rfl] at la
  generalize onceV c t=u at *
  generalize badS c t=B at *
  generalize addsS L B=M at *
  simp [T151,L151_2,hk',h166,ev_loop,hf.ne]
  generalize hr:ev pg (.code (.going _ L151_0) _)=o
  obtain ⟨r,rfl,f2,hf2,rfl⟩:∃ r,o=some r∧_:=by rw [← hr]; exact la (by simp [T151a,hf.ne])
  clear hr
  by_cases hst:sameT u t=true
  ·rw [if_pos hst] at hgo
   rw [hst] at h20
   simp [T151a,h20,hf2.ne]
   generalize hr:ev pg (.code (.going _ L151_1) _)=o
   obtain ⟨r,rfl,⟨g,m⟩,hm,f3,hf3,rfl⟩:∃ r,o=some r∧_:=by rw [← hr]; exact lb (0,0) (.inr rfl) (by simp [hf2.ne])
   clear hr
   subst hgo
   have hmm:m=1∨m=0:=hm
   rcases hmm with rfl | rfl <;> simp [hf3.ne]
   ·exact ⟨M,u,k,(g,1),.inl rfl,by simp [T151r,hf3.ne]⟩
   ·exact ⟨M,u,k,(g,0),.inr rfl,by simp [T151r,hf3.ne]⟩
  ·have hsf:sameT u t=false:=by simpa using hst
   rw [if_neg hst] at hgo
   rw [hsf] at h20
   have hG':G151 c s (countN c A) Z (k + 1) (u,M,l++B):=⟨by rw [← hgo,show 65 - (k + 1)=64 - k by omega],hmem',o1,o2,by rw [o3]; exact hln⟩
   simp [T151a,h20,wk,hf2.ne]
   refine ⟨u,M,⟨l++B,hG'⟩,?_⟩
   simp
 ·rintro ⟨t,L,l⟩ f hf hG
  have hgo:=hG.go
  simp only [Nat.sub_self,settleGo] at hgo
  subst hgo
  simp [T151,L151_2,hf.ne]
  exact ⟨t,L,by simp [T151,hf.ne]⟩
theorem settleV_eq {c:Ct} {A:Nat} (hM:Mid c A) (s:Ste):settleV c s=settleGo c (countN c A) 65 s []:=by
 unfold settleV
 rw [show c.act.toNat=A by rw [hM.act]; rfl]
def setV (Z:Option (Ste × List Int)):List V:=match Z with
 | some (t,m)=>[t.v,ints m]
 | none=>[zeroS.v,ints []]
theorem ev151 (c:Ct) {A:Nat} (hM:Mid c A) (s:Ste) (hs:s.small) (hS:Shp c s) (hok:∀ x ∈ c.signals,SigOk (linesV s).length x):∃ n:Int,ev pg (.call (.fn 151 [] []) [c.v,s.v] [])=some { v:=.tup (setV (settleV c s)++[num n,.bool (settleV c s).isSome]),st:=⟨[],[]⟩ }:=by
 have hl:=@lp151 c A hM s hs hS hok
 rw [settleV_eq hM]
 generalize settleGo c (countN c A) 65 s []=Z at *
 rw [ev_call,pg151]
 simp [ir151,ev_loop]
 generalize hr:ev pg (.code (.going _ L151_2) _)=o
 obtain ⟨r,rfl,hQ⟩:∃ r,o=some r∧_:=by rw [← hr]; exact hl (by simp [T151,seenM])
 clear hr
 cases Z with
 | none =>
  obtain ⟨t,M,f,hf,rfl⟩:=hQ
  simp [T151,setV,zeroS]
 | some p =>
  obtain ⟨t,m⟩:=p
  obtain ⟨M,u,n,⟨g,w⟩,hw,f,hf,rfl⟩:=hQ
  have hww:w=1∨w=0:=hw
  rcases hww with rfl | rfl <;> simp [T151r,setV]
theorem ev124 (c:Ct) {A:Nat} (hM:Mid c A) (s:Ste) (hs:s.small) (hS:Shp c s) (hok:∀ x ∈ c.signals,SigOk (linesV s).length x):ev pg (.call (.fn 124 [] []) [c.v,s.v] [])=some { v:=.tup (setV (settleV c s)++[.bool (settleV c s).isSome]),st:=⟨[],[]⟩ }:=by
 obtain ⟨n,h⟩:=ev151 c hM s hs hS hok
 rw [ev_call,pg124]
 cases hZ:settleV c s with
 | none =>
  rw [hZ] at h
  simp [setV] at h
  simp [ir124,h,setV]
 | some p =>
  obtain ⟨t,m⟩:=p
  rw [hZ] at h
  simp [setV] at h
  simp [ir124,h,setV]
theorem set_same {α:Type} {l:List α} {k:Nat} {x:α} (h:l[k]?=some x):l.set k x=l:=by
 refine List.ext_getElem? fun j=>?_
 rw [List.getElem?_set]
 split
 ·rename_i e
  subst e
  rw [h]
  split
  ·rfl
  ·rename_i hn
   rw [List.getElem?_eq_none (by omega)] at h
   cases h
 ·rfl
abbrev ge (s:Ste) (k:Nat):List Int:=mix (List.zipWith goesE s.valves s.ends) s.ends k
abbrev h126 (s:Ste) (k:Nat):H:=[⟨0,.box s.cells⟩,o0,o0,o0,o0,o0,⟨0,.box (nil5 1)⟩,⟨0,.arr 1 ((ge s k).map nrow)⟩,⟨0,.arr 1 (s.valves.map brow)⟩,⟨0,.arr 1 (s.inputs.map brow)⟩,⟨0,.arr 1 (s.values.map brow)⟩,⟨0,.arr 1 (s.timers.map nrow)⟩,o0,o0,o0,o0,o0,⟨0,.box [.sl 7 0 1 0 s.ends.length,.sl 8 0 1 0 s.valves.length,.sl 9 0 1 0 s.inputs.length,.sl 10 0 1 0 s.values.length,.sl 11 0 1 0 s.timers.length]⟩]
def T126 (k:Nat):Tm:=[none,some (.bptr 0 0),some (.bptr 6 0),some (.bptr 17 0),some (num k)]++List.replicate 61 none
theorem lp126 (s:Ste) (hs:s.small) (hw:s.valves.length=s.ends.length) {st:St} (h0:At (T126 0) (h126 s 0) st):∃ r,ev pg (.code (.going 18 L126_0) st)=some r∧EndsAs (.exit 0) (T126 s.ends.length) (h126 s s.ends.length) r:=by
 have hse:=hs.e
 refine loop_pic s.ends.length T126 (h126 s) _ ?_ ?_ h0
 ·intro k f hf hk
  have hk':(k:Int) < s.ends.length:=by omega
  have hkw:k < s.valves.length:=by omega
  have wk:=wrap_id (n:=(k:Int) + 1) (by omega) (by omega)
  have l1:(List.zipWith goesE s.valves s.ends).length=s.ends.length:=by rw [List.length_zipWith]; omega
  have e1:=mix_set (A:=List.zipWith goesE s.valves s.ends) (B:=s.ends) l1 (k:=k) (by omega)
  rw [List.getElem_zipWith] at e1
  have e2:=mix_get (A:=List.zipWith goesE s.valves s.ends) (B:=s.ends) l1 (k:=k) (by omega)
  rw [List.getElem?_eq_getElem hk] at e2
  have m1:=mix_len (A:=List.zipWith goesE s.valves s.ends) (B:=s.ends) l1 (k:=k) (by omega)
  rw [l1] at m1
  unfold h126 ge T126
  rw [← e1]
  have e3:=set_same e2
  generalize mix (List.zipWith goesE s.valves s.ends) s.ends k=E at *
  have hkE:k < E.length:=by omega
  unfold goesE
  by_cases z0:s.ends[k]=0
  ·cases hv:s.valves[k] <;> rw [z0] at e3 <;> simp [L126_0,hk,hk',hkw,hkE,wk,hv,z0,e3,m1.symm,hf.ne]
  ·by_cases z3:s.ends[k]=3
   ·cases hv:s.valves[k] <;> rw [z3] at e3 <;> simp [L126_0,hk,hk',hkw,hkE,wk,hv,z3,e3,m1.symm,hf.ne]
   ·by_cases z2:s.ends[k]=2
    ·cases hv:s.valves[k] <;> rw [z2] at e3 <;> simp [L126_0,hk,hk',hkw,hkE,wk,hv,z2,e3,m1.symm,hf.ne]
    ·by_cases z1:s.ends[k]=1
     ·cases hv:s.valves[k] <;> rw [z1] at e3 <;> simp [L126_0,hk,hk',hkw,hkE,wk,hv,z1,e3,m1.symm,hf.ne]
     ·have b0:(s.ends[k] == 0)=false:=by simpa using z0
      have b1:(s.ends[k] == 1)=false:=by simpa using z1
      have b2:(s.ends[k] == 2)=false:=by simpa using z2
      have b3:(s.ends[k] == 3)=false:=by simpa using z3
      cases hv:s.valves[k] <;> simp [L126_0,hk,hk',hkw,wk,hv,z0,z1,z2,z3,b0,b1,b2,b3,e3,hf.ne]
 ·intro f hf
  unfold h126 ge T126
  simp [L126_0,hf.ne]
theorem ev126 (s:Ste) (hs:s.small) (hw:s.valves.length=s.ends.length):ev pg (.call (.fn 126 [] []) [s.v] [])=some { v:=(goesS s).v,st:=⟨[],[]⟩ }:=by
 have hl:=@lp126 s hs hw
 have h130:=ev130 s hs
 have l1:(List.zipWith goesE s.valves s.ends).length=s.ends.length:=by rw [List.length_zipWith]; omega
 have z0:ge s 0=s.ends:=mix_zero _ _
 have z1:ge s s.ends.length=List.zipWith goesE s.valves s.ends:=by
  have:=mix_all l1
  rwa [l1] at this
 unfold h126 at hl
 rw [z0,z1] at hl
 unfold goesS
 generalize List.zipWith goesE s.valves s.ends=E at *
 rw [ev_call,pg126]
 simp [ir126,h130,ev_loop]
 generalize hr:ev pg (.code (.going _ L126_0) _)=o
 obtain ⟨r,rfl,f,hf,rfl⟩:∃ r,o=some r∧_:=by rw [← hr]; exact hl (by simp [T126])
 simp [T126,l1.symm]
structure Pil (c:Ct) (A:Nat) (N:Nat):Prop where
 p:c.plus.length=A
 m:c.minus.length=A
 pb:∀ x ∈ c.plus,0≤x∧x < (N:Int)
 mb:∀ x ∈ c.minus,0≤x∧x < (N:Int)
theorem pil_get {L:List Bool} {p:List Int} {k:Nat} (hk:k < p.length) (hb:∀ x ∈ p,0≤x∧x < (L.length:Int)):0≤p[k]∧∃ h:p[k].toNat < L.length,L[p[k].toNat]=lineV' L p k:=by
 obtain ⟨h1,h2⟩:=hb _ (List.getElem_mem hk)
 refine ⟨h1,by omega,?_⟩
 have h3:p[k].toNat < L.length:=by omega
 unfold lineV'
 rw [List.getElem?_eq_getElem hk]
 simp [h3]
abbrev vm (c:Ct) (s:Ste) (L:List Bool) (k:Nat):List Bool:=mix (s.valves.mapIdx (valvF c L)) s.valves k
abbrev cfL (c:Ct) (L:List Bool) (A k:Nat):List Int:=selL (fun i=>lineV' L c.plus i && lineV' L c.minus i) (countN c A:Nat) k
abbrev h125 (c:Ct) (s:Ste) (L:List Bool) (A k:Nat) (a:Nat × Nat):H:=[⟨0,.box c.cells⟩,⟨0,.box s.cells⟩,o0,o0,o0,o0,o0,⟨0,.box (nil5 2)⟩,⟨0,.arr 1 (s.ends.map nrow)⟩,⟨0,.arr 1 ((vm c s L k).map brow)⟩,⟨0,.arr 1 (s.inputs.map brow)⟩,⟨0,.arr 1 (s.values.map brow)⟩,⟨0,.arr 1 (s.timers.map nrow)⟩,o0,o0,o0,o0,o0,⟨0,.box [.sl 8 0 1 0 s.ends.length,.sl 9 0 1 0 s.valves.length,.sl 10 0 1 0 s.inputs.length,.sl 11 0 1 0 s.values.length,.sl 12 0 1 0 s.timers.length]⟩,⟨0,.arr 1 (L.map brow)⟩,o0,⟨a.1,.arr a.2 ((cfL c L A k).map nrow)⟩]
def T125 (c:Ct) (L:List Bool) (A k:Nat) (a:Nat × Nat):Tm:=[none,none,some (.bptr 0 0),some (.bptr 1 0),some (.bptr 7 0),some (.sl 20 0 0 0 0),some (.bptr 18 0),some (.sl 19 0 1 0 L.length),some (.sl 21 a.1 a.2 0 (cfL c L A k).length),some (num k)]++List.replicate 50 none
set_option maxHeartbeats 1000000 in
theorem lp125 (c:Ct) {A:Nat} (hM:Mid c A) (s:Ste) (hw:s.valves.length=A) (L:List Bool) (hP:Pil c A L.length) {st:St} (a0:Nat × Nat) (g0:a0.2=1∨a0.2=0) (h0:At (T125 c L A 0 a0) (h125 c s L A 0 a0) st):∃ r,ev pg (.code (.going 22 L125_0) st)=some r∧∃ a:Nat × Nat,(a.2=1∨a.2=0)∧EndsAs (.exit 0) (T125 c L A A a) (h125 c s L A A a) r:=by
 have hn1:=hM.sig
 have hn2:=hM.inp
 have hn3:=hM.hi
 have hact:=hM.act
 have hN:countN c A≤172:=by unfold countN; omega
 have h102:=ev102 hM
 refine loop_at A (T125 c L A) (h125 c s L A) (fun _ a=>a.2=1∨a.2=0) _ ?_ ?_ a0 g0 h0
 ·rintro k ⟨g,m⟩ f hf hk hG
  have hk':(k:Int) < c.act:=by omega
  have wk:=wrap_id (n:=(k:Int) + 1) (by omega) (by omega)
  have hkp:k < c.plus.length:=by rw [hP.p]; exact hk
  have hkm:k < c.minus.length:=by rw [hP.m]; exact hk
  have hkw:k < s.valves.length:=by omega
  obtain ⟨p0,p1,p2⟩:=pil_get hkp hP.pb
  obtain ⟨q0,q1,q2⟩:=pil_get hkm hP.mb
  have l1:(s.valves.mapIdx (valvF c L)).length=s.valves.length:=List.length_mapIdx
  have e1:=mix_set (A:=s.valves.mapIdx (valvF c L)) (B:=s.valves) l1 (k:=k) (by omega)
  rw [List.getElem_mapIdx] at e1
  have e2:=mix_get (A:=s.valves.mapIdx (valvF c L)) (B:=s.valves) l1 (k:=k) (by omega)
  rw [List.getElem?_eq_getElem hkw] at e2
  have m1:=mix_len (A:=s.valves.mapIdx (valvF c L)) (B:=s.valves) l1 (k:=k) (by omega)
  rw [l1] at m1
  have e3:=set_same e2
  have e4:=selL_succ (fun i=>lineV' L c.plus i && lineV' L c.minus i) (countN c A:Nat) k
  have hsl:=selL_len (fun i=>lineV' L c.plus i && lineV' L c.minus i) (countN c A:Nat) k
  unfold h125 T125 vm cfL
  have hvf:valvF c L k s.valves[k]=if lineV' L c.plus k != lineV' L c.minus k then lineV' L c.plus k else s.valves[k]:=rfl
  rw [← e1,e4,hvf]
  clear e1 l1 e2 hvf
  generalize mix (s.valves.mapIdx (valvF c L)) s.valves k=E at *
  generalize selL (fun i=>lineV' L c.plus i && lineV' L c.minus i) (countN c A:Nat) k=B at *
  generalize lineV' L c.plus k=pl at *
  generalize lineV' L c.minus k=mi at *
  have hkE:k < E.length:=by omega
  have hb1:(B.length + 1) * 8≤140737488355328:=by omega
  generalize countN c A=N at *
  have wN:=wrap_id (n:=(N:Int) + (k:Int)) (by omega) (by omega)
  have hmm:m=1∨m=0:=hG
  rcases hmm with rfl | rfl <;> cases pl <;> cases mi <;> simp [ev_draw1,exT,chkOk,L125_0,hk',wk,hkp,hkm,p0,p1,p2,q0,q1,q2,h102,wN,hkE,e3,m1.symm,hb1,hf.ne]
 ·rintro ⟨g,m⟩ f hf hG
  have hk':¬ ((A:Int) < c.act):=by omega
  unfold h125 T125
  generalize cfL c L A A=B at *
  have hmm:m=1∨m=0:=hG
  rcases hmm with rfl | rfl <;> simp [L125_0,hk',hf.ne]
theorem ev125 (c:Ct) {A:Nat} (hM:Mid c A) (s:Ste) (hs:s.small) (hS:Shp c s) (hP:Pil c A (linesV s).length):ev pg (.call (.fn 125 [] []) [c.v,s.v] [])=some { v:=.tup [(valvS c s).v,ints (selL (fun i=>lineV' (linesV s) c.plus i && lineV' (linesV s) c.minus i) (countN c A:Nat) A)],st:=⟨[],[]⟩ }:=by
 have hact:=hM.act
 have hw:s.valves.length=A:=by have:=hS.w; omega
 have hl:=@lp125 c A hM s hw (linesV s) hP
 have h28:=ev28 c s hs hS.e
 have h130:=ev130 s hs
 have l1:(s.valves.mapIdx (valvF c (linesV s))).length=s.valves.length:=List.length_mapIdx
 have z0:vm c s (linesV s) 0=s.valves:=mix_zero _ _
 have z1:vm c s (linesV s) A=s.valves.mapIdx (valvF c (linesV s)):=by
  have:=mix_all l1
  rwa [l1,hw] at this
 have z2:cfL c (linesV s) A 0=[]:=rfl
 unfold h125 T125 at hl
 rw [z0,z1,z2] at hl
 unfold valvS
 rw [show selL (fun i=>lineV' (linesV s) c.plus i && lineV' (linesV s) c.minus i) (countN c A:Nat) A=cfL c (linesV s) A A from rfl]
 generalize s.valves.mapIdx (valvF c (linesV s))=E at *
 generalize cfL c (linesV s) A A=B at *
 generalize linesV s=L at *
 rw [ev_call,pg125]
 simp [ir125,h28,h130,ev_loop]
 generalize hr:ev pg (.code (.going _ L125_0) _)=o
 obtain ⟨r,rfl,⟨g,m⟩,hm,f,hf,rfl⟩:∃ r,o=some r∧_:=by rw [← hr]; exact hl (0,0) (.inr rfl) (by simp)
 clear hr
 have hmm:m=1∨m=0:=hm
 rcases hmm with rfl | rfl <;> simp [l1.symm]
end Go.Proofs.YtbhkplbciajikaaGreat
