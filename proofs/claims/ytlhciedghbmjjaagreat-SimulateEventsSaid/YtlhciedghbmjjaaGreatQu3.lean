/- A round of the plant, by the program: the function; lists merged. The plant comes to rest, by the reference. Rest and Start of the reference. Quiet and Events of the reference. The plant comes to rest, by the program. Quiet, by the program. -/
import Derived.Test.YtlhciedghbmjjaaGreatRd2
import Derived.KernelRfl
import Derived.Test.YtlhciedghbmjjaaGreatRu2
set_option linter.all false
namespace Go.Proofs.YtlhciedghbmjjaaGreat
open Go Go.Am Go.Proofs
set_option maxRecDepth 100000
set_option maxHeartbeats 1000000 in
theorem ev89_some {c:Ct} {s:Ste} (h:Rdy c s) {t:Ste} {m:List Int} (hz:settleV c s=some (t,m)):ev pg (.call (.fn 89 [] []) [c.v,s.v] [])=some { v:=.tup [(goesS (valvS c t)).v,ints (m++confS c t),num 0],st:=⟨[],[]⟩ }:=by
 have ht:=h.settle hz
 have e81:=ev127_some h hz
 have e60:=ev56 t ht.small
 have hml:=(settleV_lin hz).len
 have hmid:=ht.mid
 have hN:=allN_le hmid
 have hS:=ht.shp
 have hm:m.length≤4096:=by unfold allN at hN; omega
 have hl:=@lp46 c t s ht m hm c.act.toNat rfl
 have hact:=hmid.act
 have hhi:=hmid.hi
 have hinp:=hmid.inp
 have hsig:=hmid.sig
 have hwl:t.valves.length=c.act.toNat:=by have:=hS.w; omega
 have hel:t.ends.length=c.act.toNat:=by have:=hS.e; omega
 have l1:(vA c t).length=t.valves.length:=List.length_mapIdx
 have l2:(eA c t).length=t.ends.length:=by rw [List.length_zipWith,l1]; omega
 have z1:mix (vA c t) t.valves 0=t.valves:=mix_zero _ _
 have z2:mix (eA c t) t.ends 0=t.ends:=mix_zero _ _
 have z3:mix (vA c t) t.valves c.act.toNat=vA c t:=by
  have:=mix_all l1
  rwa [l1,hwl] at this
 have z4:mix (eA c t) t.ends c.act.toNat=eA c t:=by
  have:=mix_all l2
  rwa [l2,hel] at this
 have z5:cfL c (linesV t) c.act.toNat 0=[]:=rfl
 have z6:cfL c (linesV t) c.act.toNat c.act.toNat=confS c t:=rfl
 unfold h46 T46 at hl
 rw [z1,z2,z3,z4,z5,z6,List.append_nil] at hl
 have hg:goesS (valvS c t)=⟨eA c t,vA c t,t.inputs,t.values,t.timers⟩:=rfl
 rw [hg]
 have w1:IntKind.i64.wrap (2 * c.act)=2 * (c.act.toNat:Int):=by rw [show (2:Int) * c.act=2 * (c.act.toNat:Int) by omega]; exact wrap_id (by omega) (by omega)
 have w2:IntKind.i64.wrap (2 * (c.act.toNat:Int) + c.inputs.length)=2 * (c.act.toNat:Int) + c.inputs.length:=wrap_id (by omega) (by omega)
 have w3:IntKind.i64.wrap (2 * (c.act.toNat:Int) + c.inputs.length + c.signals.length)=2 * (c.act.toNat:Int) + c.inputs.length + c.signals.length:=wrap_id (by omega) (by omega)
 unfold countN at hl
 generalize confS c t=B at *
 generalize vA c t=VV at *
 generalize eA c t=EE at *
 generalize c.act.toNat=A at *
 rw [ev_call,pg89]
 simp [ir89,e81,e60,w1,w2,w3,ev_loop]
 generalize hr:ev pg (.code (.going _ L89_0) _)=o
 obtain ⟨r,rfl,g,f,hf,rfl⟩:∃ r,o=some r∧_:=by rw [← hr]; exact hl 0 (by simp [hact])
 clear hr
 simp [l1.symm,l2.symm]
theorem ev89_none {c:Ct} {s:Ste} (h:Rdy c s) (hz:settleV c s=none):ev pg (.call (.fn 89 [] []) [c.v,s.v] [])=some { v:=.tup [zeroS.v,ints [],num 21],st:=⟨[],[]⟩ }:=by
 have e81:=ev127_none h hz
 rw [ev_call,pg89]
 simp [ir89,e81,zeroS]
theorem ev59 (N:Nat) (a b:List Int) (ha:a.length≤10000) (hb:b.length≤10000) (hbd:∀ x ∈ a++b,0≤x∧x < (N:Int)):ev pg (.call (.fn 59 [] []) [ints a,ints b] [])=some { v:=ints (norm N (a++b)),st:=⟨[],[]⟩ }:=by
 have e32:=ev72c [a,b] (by simp) (by simp) (by simp; omega)
 simp only [llsI,List.map_cons,List.map_nil,List.flatten_cons,List.flatten_nil,List.append_nil] at e32
 generalize hab:a++b=l at *
 have hl:l.length≤20000:=by rw [← hab]; simp; omega
 have key:∀ (g:Nat) (l:List Int),calm [⟨g,.arr 1 (l.map nrow)⟩]:=fun g l=>by
  unfold calm
  simp
 obtain ⟨l',hp,hsr,e33⟩:=ev73 (h:=[⟨0,.arr 1 (l.map nrow)⟩]) (i:=0) (g:=0) (l:=l) rfl (key 0 l) (by omega)
 have hpl:=hp.length_eq
 obtain ⟨rows,hr1,hr2,e36⟩:=ev74 (h:=[⟨0,.arr 1 (l'.map nrow)⟩]) (i:=0) (g:=0) (l:=l') rfl (key 0 l') (by omega)
 have hcn:compactL l'=norm N l:=compact_norm hsr (fun x=>hp.mem_iff) hbd
 rw [hcn] at hr2 e36
 rw [hpl] at e36
 have hle:(norm N l).length≤rows.length:=by
  have:=congrArg List.length hr2
  simp at this
  omega
 have hif:=take_if hr2
 have hif2:(if (norm N l).length=rows.length then some rows else some (rows.take (norm N l).length))=some ((norm N l).map nrow):=by
  split
  ·rename_i e
   rw [if_pos e] at hif
   rw [hif]
  ·rename_i e
   rw [if_neg e] at hif
   rw [hif]
 generalize norm N l=M at *
 simp at e33 e36
 rw [ev_call,pg59]
 simp [ir59,e32,e33,e36,hle,hif2]
def sl0 (k:Nat) (l:List Int):V:=if k=0 then .sl 9 0 0 0 0 else ints l
theorem sl0_ne (k:Nat) (l:List Int):sl0 k l ≠ .nils:=by
 unfold sl0; split <;> simp
def ob0 (k:Nat):Ob:=if k=0 then o0 else ⟨0,.frz 0 []⟩
abbrev h86r (c:Ct) (t:Ste):H:=[⟨0,.box c.cells⟩,⟨0,.box t.cells⟩,o0,o0,o0,o0,o0,⟨0,.box t.cells⟩,o0,⟨0,.frz 0 []⟩,o0,o0,o0,o0,o0,⟨0,.box t.cells⟩]
structure G86 (c:Ct) (Z:Option (Ste × List Int)) (k:Nat) (a:Ste × List Int):Prop where
 go:restGo c (65 - k) a.1 a.2=Z
 rdy:Rdy c a.1
 lin:Lin (allN c) a.2
 nil:k=0→a.2=[]
abbrev outV (x:Ste × List Int × Int):V:=.tup [x.1.v,ints x.2.1,num x.2.2]
def restR (c:Ct) (s:Ste):Ste × List Int × Int:=if stE c s=0 then restE c s else (zeroS,[],stE c s)
abbrev ini (c:Ct) (k:Nat):List Bool:=mix (c.signals.map Sg.init) (List.replicate c.signals.length false) k
theorem ini_len (c:Ct) {k:Nat} (hk:k≤c.signals.length):(ini c k).length=c.signals.length:=by
 have:=mix_len (A:=c.signals.map Sg.init) (B:=List.replicate c.signals.length false) (by simp) (k:=k) (by simpa using hk)
 simpa using this
theorem firstG_rdy {c:Ct} (hfew:c.small=true) (hc:c.check=0):Rdy c (firstG c):=⟨hfew,firstG_right hc⟩
def startR (c:Ct):Ste × List Int × Int:=if c.check=0 then restE c (beginV c) else (zeroS,[],c.check)
def stillB (c:Ct) (s:Ste):Bool:=((roundV c s).map fun x=>sameT s x.1).getD false
def quietR (c:Ct) (s:Ste):Bool × Int:=if stE c s=0 then (stillB c s,0) else (false,stE c s)
def quE (c:Ct) (s:Ste):Int:=if stE c s=0 then (if stillB c s=true then 0 else 14) else stE c s
abbrev evs (l:List Evn):V:=.imm (l.map Evn.row)
theorem norm_right {N:Nat} {l m:List Int}:norm N (l++norm N m)=norm N (l++m) :=
 norm_congr fun x h1 h2=>by rw [List.mem_append,List.mem_append,mem_norm]; exact ⟨fun a=>a.elim .inl (fun b=>.inr b.1),fun a=>a.elim .inl (fun b=>.inr ⟨b,h1,h2⟩)⟩
theorem roundV_none {c:Ct} {s:Ste}:roundV c s=none ↔ settleV c s=none:=by
 unfold roundV
 cases settleV c s <;> simp
abbrev h16 (c:Ct) (k:Nat) (a:Ste × List Int):H:=[⟨0,.box c.cells⟩,⟨0,.box a.1.cells⟩,o0,o0,o0,o0,o0,⟨0,.box (nil5 2)⟩,o0,ob0 k]
def T16 (k:Nat) (a:Ste × List Int):Tm:=[none,none,some (.bptr 0 0),some (.bptr 1 0),some (.bptr 7 0),some (.sl 8 0 0 0 0),some (num 0),none,some (sl0 k a.2),none,none,none,none,none,none,none,none,none,none,some (num k)]++List.replicate 23 none
def T16r (m:List Int):Tm:=[none,none,none,none,some (.bptr 7 0),some (ints m),some (num 0)]++List.replicate 36 none
abbrev h16n (c:Ct) (k:Nat) (s t:Ste):H:=[⟨0,.box c.cells⟩,⟨0,.box s.cells⟩,o0,o0,o0,o0,o0,⟨0,.box (nil5 16)⟩,o0,ob0 k,o0,o0,o0,o0,o0,⟨0,.box t.cells⟩,o0,o0,o0,o0,o0]
def T16n:Tm:=[none,none,none,none,some (.bptr 7 0),some .nils,some (num 21)]++List.replicate 36 none
def Out16 (c:Ct) (Z:Option (Ste × List Int)) (r:R):Prop:=match Z with
 | some (t,m)=>EndsAs .ret (T16r m) (h86r c t) r
 | none=>(∃ k s t,EndsAs .ret T16n (h16n c k s t) r)∨∃ a,EndsAs (.exit 0) (T16 65 a) (h16 c 65 a) r
theorem confS_in {c:Ct} {t:Ste} {m:List Int} (hm:Lin (countN c c.act.toNat) m):∀ x ∈ m++confS c t,0≤x∧x < (allN c:Nat):=by
 intro x hx
 rcases List.mem_append.1 hx with h | h
 ·exact (hm.mono (by unfold allN; omega)).b x h
 ·exact (confS_lin c t).b x h
set_option maxHeartbeats 1000000 in
theorem lp16 {c:Ct} {s:Ste} (hs:Rdy c s) {st:St} (h0:At (T16 0 (s,[])) (h16 c 0 (s,[])) st):∃ r,ev pg (.code (.going 10 L54_0) st)=some r∧Out16 c (restV c s) r:=by
 generalize hR:restV c s=Z
 refine loop_at 65 T16 (h16 c) (G86 c Z) _ ?_ ?_ (s,[]) ⟨hR,hs,Lin.nil _,fun _=>rfl⟩ h0
 ·rintro k ⟨t,l⟩ f hf hk hG
  have hgo:=hG.go
  have hrd:=hG.rdy
  have hl:=hG.lin
  have hn:=hG.nil
  simp only at hgo hrd hl hn
  have hk':(k:Int) < 65:=by omega
  have wk:=wrap_id (n:=(k:Int) + 1) (by omega) (by omega)
  have w1:IntKind.i64.wrap 1=1:=by decide
  have hN:=allN_le hrd.mid
  rw [show 65 - k=(64 - k) + 1 by omega,restGo] at hgo
  cases hZ:settleV c t with
  | none =>
   have e46:=ev89_none hrd hZ
   rw [roundV_none.2 hZ] at hgo
   simp only at hgo
   subst hgo
   simp [T16,L54_0,hk',e46,hf.ne]
   exact .inl ⟨k,t,zeroS,by simp [T16n,hf.ne,zeroS,sl0_ne]⟩
  | some x =>
   obtain ⟨v,m⟩:=x
   have e46:=ev89_some hrd hZ
   have hrv:roundV c t=some (goesS (valvS c v),norm (allN c) (m++confS c v)):=by unfold roundV; rw [hZ]; rfl
   rw [hrv] at hgo
   simp only at hgo
   have hru:=hrd.round hrv
   have hml:=settleV_lin hZ
   have hin:=confS_in (t:=v) hml
   have hmn:=hml.len
   have hcn:=(confS_lin c v).len
   have hln:=hl.len
   have e54:=ev59 (allN c) l (m++confS c v) (by omega) (by simp; unfold allN at hN hcn; omega) (fun x hx=>(List.mem_append.1 hx).elim (hl.b x) (hin x))
   rw [norm_right] at hgo
   have hl':Lin (allN c) (norm (allN c) (l++(m++confS c v))):=Lin.norm _ _
   have e47:=ev90 (goesS (valvS c v)) t hru.small
   rw [sameT_comm] at e47
   generalize norm (allN c) (l++(m++confS c v))=p at *
   generalize m++confS c v=q at *
   generalize goesS (valvS c v)=u at *
   by_cases hst:sameT t u=true
   ·rw [if_pos hst] at hgo
    rw [hst] at e47
    subst hgo
    obtain rfl:=sameT_iff.1 hst
    unfold T16 sl0 h16 ob0
    by_cases hk0:k=0
    ·subst hk0
     rw [hn rfl] at e54
     have e54':ev pg (.call (.fn 59 [] []) [.imm [],ints q] [])=_:=e54
     simp [L54_0,e46,e54',e47,hf.ne]
     simp [Out16,T16r,hf.ne]
    ·simp [L54_0,hk0,hk',e46,e54,e47,hf.ne]
     simp [Out16,T16r,hf.ne]
   ·have hsf:sameT t u=false:=by simpa using hst
    rw [if_neg hst] at hgo
    rw [hsf] at e47
    have hG':G86 c Z (k + 1) (u,p):=⟨by rw [← hgo,show 65 - (k + 1)=64 - k by omega],hru,hl',by omega⟩
    unfold T16 sl0 h16 ob0
    by_cases hk0:k=0
    ·subst hk0
     rw [hn rfl] at e54
     have e54':ev pg (.call (.fn 59 [] []) [.imm [],ints q] [])=_:=e54
     simp [L54_0,e46,e54',e47,w1,hf.ne]
     exact ⟨u,p,hG',by simp⟩
    ·simp [L54_0,hk0,hk',wk,e46,e54,e47,hf.ne]
     exact ⟨u,p,hG',by simp⟩
 ·rintro ⟨t,l⟩ f hf hG
  have hgo:=hG.go
  simp only [Nat.sub_self,restGo] at hgo
  subst hgo
  simp [T16,L54_0]
  exact .inr ⟨(t,l),by simp [T16,hf.ne]⟩
theorem ev54 (c:Ct) (s:Ste) (hfew:c.small=true) (hs:s.small):ev pg (.call (.fn 54 [] []) [c.v,s.v] [])=some { v:=outV (restR c s),st:=⟨[],[]⟩ }:=by
 have e45:=ev88 c s hfew hs
 unfold restR
 rw [ev_call,pg54]
 by_cases h:stE c s=0
 ·have hl:=@lp16 c s ⟨hfew,h⟩
  rw [if_pos h]
  rw [h] at e45
  unfold restE
  generalize restV c s=Z at *
  simp [ir54,e45,ev_loop]
  generalize hr:ev pg (.code (.going _ L54_0) _)=o
  obtain ⟨r,rfl,hQ⟩:∃ r,o=some r∧_:=by rw [← hr]; exact hl (by simp [T16,sl0,ob0])
  clear hr
  cases Z with
  | none =>
   rcases hQ with ⟨k,s,t,f,hf,rfl⟩ | ⟨⟨s,l⟩,f,hf,rfl⟩
   ·simp [T16n,zeroS]
   ·simp [T16,zeroS,ob0]
  | some p =>
   obtain ⟨t,m⟩:=p
   obtain ⟨f,hf,rfl⟩:=hQ
   simp [T16r]
 ·rw [if_neg h]
  have hb:(stE c s == 0)=false:=by simpa using h
  generalize stE c s=e at *
  simp [ir54,e45,h,hb,zeroS]
theorem ev91 (c:Ct) (s:Ste) (hfew:c.small=true) (hs:s.small):ev pg (.call (.fn 91 [] []) [c.v,s.v] [])=some { v:=.tup [.bool (quietR c s).1,num (quietR c s).2],st:=⟨[],[]⟩ }:=by
 have e45:=ev88 c s hfew hs
 unfold quietR
 rw [ev_call,pg91]
 by_cases h:stE c s=0
 ·have hR:Rdy c s:=⟨hfew,h⟩
  rw [if_pos h]
  rw [h] at e45
  unfold stillB
  cases hZ:settleV c s with
  | none =>
   have e46:=ev89_none hR hZ
   rw [roundV_none.2 hZ]
   simp [ir91,e45,e46,zeroS]
  | some x =>
   obtain ⟨v,m⟩:=x
   have e46:=ev89_some hR hZ
   have hrv:roundV c s=some (goesS (valvS c v),norm (allN c) (m++confS c v)):=by unfold roundV; rw [hZ]; rfl
   have e47:=ev90 (goesS (valvS c v)) s (hR.round hrv).small
   rw [sameT_comm] at e47
   rw [hrv]
   simp only [Option.map_some,Option.getD_some]
   generalize sameT s (goesS (valvS c v))=b at *
   generalize goesS (valvS c v)=u at *
   simp [ir91,e45,e46,e47]
 ·rw [if_neg h]
  have hb:(stE c s == 0)=false:=by simpa using h
  generalize stE c s=e at *
  simp [ir91,e45,h,hb]
theorem ev55 (c:Ct) (s:Ste) (hfew:c.small=true) (hs:s.small):ev pg (.call (.fn 55 [] []) [c.v,s.v] [])=some { v:=num (quE c s),st:=⟨[],[]⟩ }:=by
 have e11:=ev91 c s hfew hs
 unfold quietR at e11
 unfold quE
 rw [ev_call,pg55]
 by_cases h:stE c s=0
 ·rw [if_pos h] at e11 ⊢
  simp only at e11
  cases hb:stillB c s <;> rw [hb] at e11 <;> simp [ir55,e11]
 ·rw [if_neg h] at e11 ⊢
  simp only at e11
  have hb:(stE c s == 0)=false:=by simpa using h
  generalize stE c s=e at *
  simp [ir55,e11,h,hb]
end Go.Proofs.YtlhciedghbmjjaaGreat
