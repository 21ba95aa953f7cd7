/- A round of the plant, by the program: the function; lists merged. The plant comes to rest, by the reference. Rest and Start of the reference. Quiet and Events of the reference. The plant comes to rest, by the program. Quiet, by the program. -/
import Derived.Test.YtlhciedghbmjjaaGreatRd2
import Derived.KernelRfl
import Derived.Test.YtlhciedghbmjjaaGreatRu2
set_option linter.all false
namespace Go.Proofs.YtlhciedghbmjjaaGreat
open Go Go.Am Go.Proofs
set_option maxRecDepth 100000
set_option maxHeartbeats 1000000 in
theorem ev89_some {c:Ct} {s:Ste} (h:Rdy c s) {t:Ste} {m:List Int} (hz:qcw c s=some (t,m)):ev pg (.call (.fn 89 [] []) [c.v,s.v] [])=some { v:=.tup [(qlp (qpm c t)).v,qck (m++qmu c t),num 0],st:=⟨[],[]⟩ }:=by
 have ht:=h.settle hz
 have e81:=ev127_some h hz
 have e60:=ev56 t ht.small
 have hml:=(qti hz).len
 have hmid:=ht.mid
 have hN:=qmp hmid
 have hS:=ht.shp
 have hm:m.length≤4096:=by unfold qie at hN; omega
 have hl:=@z8h c t s ht m hm c.act.toNat rfl
 have hact:=hmid.act
 have hhi:=hmid.hi
 have hinp:=hmid.inp
 have hsig:=hmid.sig
 have hwl:t.valves.length=c.act.toNat:=by have:=hS.w; omega
 have hel:t.ends.length=c.act.toNat:=by have:=hS.e; omega
 have l1:(vA c t).length=t.valves.length:=List.length_mapIdx
 have l2:(eA c t).length=t.ends.length:=by rw [List.length_zipWith,l1]; omega
 have z1:mix (vA c t) t.valves 0=t.valves:=qna _ _
 have z2:mix (eA c t) t.ends 0=t.ends:=qna _ _
 have z3:mix (vA c t) t.valves c.act.toNat=vA c t:=by
  have:=qtr l1
  rwa [l1,hwl] at this
 have z4:mix (eA c t) t.ends c.act.toNat=eA c t:=by
  have:=qtr l2
  rwa [l2,hel] at this
 have z5:cfL c (qae t) c.act.toNat 0=[]:=rfl
 have z6:cfL c (qae t) c.act.toNat c.act.toNat=qmu c t:=rfl
 unfold h46 T46 at hl
 rw [z1,z2,z3,z4,z5,z6,List.append_nil] at hl
 have hg:qlp (qpm c t)=⟨eA c t,vA c t,t.inputs,t.values,t.timers⟩:=rfl
 rw [hg]
 have w1:IntKind.i64.wrap (2 * c.act)=2 * (c.act.toNat:Int):=by rw [show (2:Int) * c.act=2 * (c.act.toNat:Int) by omega]; exact qab (by omega) (by omega)
 have w2:IntKind.i64.wrap (2 * (c.act.toNat:Int) + c.inputs.length)=2 * (c.act.toNat:Int) + c.inputs.length:=qab (by omega) (by omega)
 have w3:IntKind.i64.wrap (2 * (c.act.toNat:Int) + c.inputs.length + c.signals.length)=2 * (c.act.toNat:Int) + c.inputs.length + c.signals.length:=qab (by omega) (by omega)
 unfold qai at hl
 generalize qmu c t=B at *
 generalize vA c t=VV at *
 generalize eA c t=EE at *
 generalize c.act.toNat=A at *
 rw [qac,pg89]
 simp [ir89,e81,e60,w1,w2,w3,qag]
 generalize hr:ev pg (.code (.going _ L89_0) _)=o
 obtain ⟨r,rfl,g,f,hf,rfl⟩:∃ r,o=some r∧_:=by rw [← hr]; exact hl 0 (by simp [hact])
 clear hr
 simp [l1.symm,l2.symm]
theorem ev89_none {c:Ct} {s:Ste} (h:Rdy c s) (hz:qcw c s=none):ev pg (.call (.fn 89 [] []) [c.v,s.v] [])=some { v:=.tup [zeroS.v,qck [],num 21],st:=⟨[],[]⟩ }:=by
 have e81:=ev127_none h hz
 rw [qac,pg89]
 simp [ir89,e81,zeroS]
theorem ev59 (N:Nat) (a b:List Int) (ha:a.length≤10000) (hb:b.length≤10000) (hbd:∀ x ∈ a++b,0≤x∧x < (N:Int)):ev pg (.call (.fn 59 [] []) [qck a,qck b] [])=some { v:=qck (norm N (a++b)),st:=⟨[],[]⟩ }:=by
 have e32:=ev72c [a,b] (by simp) (by simp) (by simp; omega)
 simp only [zag,List.map_cons,List.map_nil,List.flatten_cons,List.flatten_nil,List.append_nil] at e32
 generalize hab:a++b=l at *
 have hl:l.length≤20000:=by rw [← hab]; simp; omega
 have key:∀ (g:Nat) (l:List Int),qci [⟨g,.arr 1 (l.map qfb)⟩]:=fun g l=>by
  unfold qci
  simp
 obtain ⟨l',hp,hsr,e33⟩:=ev73 (h:=[⟨0,.arr 1 (l.map qfb)⟩]) (i:=0) (g:=0) (l:=l) rfl (key 0 l) (by omega)
 have hpl:=hp.length_eq
 obtain ⟨rows,hr1,hr2,e36⟩:=ev74 (h:=[⟨0,.arr 1 (l'.map qfb)⟩]) (i:=0) (g:=0) (l:=l') rfl (key 0 l') (by omega)
 have hcn:qav l'=norm N l:=qqg hsr (fun x=>hp.mem_iff) hbd
 rw [hcn] at hr2 e36
 rw [hpl] at e36
 have hle:(norm N l).length≤rows.length:=by
  have:=congrArg List.length hr2
  simp at this
  omega
 have hif:=q9h hr2
 have hif2:(if (norm N l).length=rows.length then some rows else some (rows.take (norm N l).length))=some ((norm N l).map qfb):=by
  split
  ·rename_i e
   rw [if_pos e] at hif
   rw [hif]
  ·rename_i e
   rw [if_neg e] at hif
   rw [hif]
 generalize norm N l=M at *
 simp at e33 e36
 rw [qac,pg59]
 simp [ir59,e32,e33,e36,hle,hif2]
def sl0 (k:Nat) (l:List Int):V:=if k=0 then .sl 9 0 0 0 0 else qck l
theorem zuk (k:Nat) (l:List Int):sl0 k l ≠ .nils:=by
 unfold sl0; split <;> simp
def ob0 (k:Nat):Ob:=if k=0 then o0 else ⟨0,.frz 0 []⟩
abbrev z7p (c:Ct) (t:Ste):H:=[⟨0,.box c.cells⟩,⟨0,.box t.cells⟩,o0,o0,o0,o0,o0,⟨0,.box t.cells⟩,o0,⟨0,.frz 0 []⟩,o0,o0,o0,o0,o0,⟨0,.box t.cells⟩]
structure G86 (c:Ct) (Z:Option (Ste × List Int)) (k:Nat) (a:Ste × List Int):Prop where
 go:qfl c (65 - k) a.1 a.2=Z
 rdy:Rdy c a.1
 lin:Lin (qie c) a.2
 nil:k=0→a.2=[]
abbrev znc (x:Ste × List Int × Int):V:=.tup [x.1.v,qck x.2.1,num x.2.2]
def qqx (c:Ct) (s:Ste):Ste × List Int × Int:=if stE c s=0 then qji c s else (zeroS,[],stE c s)
abbrev ini (c:Ct) (k:Nat):List Bool:=mix (c.signals.map Sg.init) (List.replicate c.signals.length false) k
theorem zrd (c:Ct) {k:Nat} (hk:k≤c.signals.length):(ini c k).length=c.signals.length:=by
 have:=qte (A:=c.signals.map Sg.init) (B:=List.replicate c.signals.length false) (by simp) (k:=k) (by simpa using hk)
 simpa using this
theorem q8p {c:Ct} (hfew:c.small=true) (hc:c.check=0):Rdy c (qil c):=⟨hfew,qqu hc⟩
def qbk (c:Ct):Ste × List Int × Int:=if c.check=0 then qji c (qnw c) else (zeroS,[],c.check)
def qzt (c:Ct) (s:Ste):Bool:=((qdj c s).map fun x=>qkp s x.1).getD false
def q5e (c:Ct) (s:Ste):Bool × Int:=if stE c s=0 then (qzt c s,0) else (false,stE c s)
def quE (c:Ct) (s:Ste):Int:=if stE c s=0 then (if qzt c s=true then 0 else 14) else stE c s
theorem q7m {N:Nat} {l m:List Int}:norm N (l++norm N m)=norm N (l++m) :=
 qwk fun x h1 h2=>by rw [List.mem_append,List.mem_append,qhv]; exact ⟨fun a=>a.elim .inl (fun b=>.inr b.1),fun a=>a.elim .inl (fun b=>.inr ⟨b,h1,h2⟩)⟩
theorem qsw {c:Ct} {s:Ste}:qdj c s=none ↔ qcw c s=none:=by
 unfold qdj
 cases qcw c s <;> simp
abbrev h16 (c:Ct) (k:Nat) (a:Ste × List Int):H:=[⟨0,.box c.cells⟩,⟨0,.box a.1.cells⟩,o0,o0,o0,o0,o0,⟨0,.box (zfe 2)⟩,o0,ob0 k]
def T16 (k:Nat) (a:Ste × List Int):Tm:=[none,none,some (.bptr 0 0),some (.bptr 1 0),some (.bptr 7 0),some (.sl 8 0 0 0 0),some (num 0),none,some (sl0 k a.2),none,none,none,none,none,none,none,none,none,none,some (num k)]++List.replicate 23 none
def z0e (m:List Int):Tm:=[none,none,none,none,some (.bptr 7 0),some (qck m),some (num 0)]++List.replicate 36 none
abbrev z7l (c:Ct) (k:Nat) (s t:Ste):H:=[⟨0,.box c.cells⟩,⟨0,.box s.cells⟩,o0,o0,o0,o0,o0,⟨0,.box (zfe 16)⟩,o0,ob0 k,o0,o0,o0,o0,o0,⟨0,.box t.cells⟩,o0,o0,o0,o0,o0]
def z3f:Tm:=[none,none,none,none,some (.bptr 7 0),some .nils,some (num 21)]++List.replicate 36 none
def zot (c:Ct) (Z:Option (Ste × List Int)) (r:R):Prop:=match Z with
 | some (t,m)=>qaj .ret (z0e m) (z7p c t) r
 | none=>(∃ k s t,qaj .ret z3f (z7l c k s t) r)∨∃ a,qaj (.exit 0) (T16 65 a) (h16 c 65 a) r
theorem zha {c:Ct} {t:Ste} {m:List Int} (hm:Lin (qai c c.act.toNat) m):∀ x ∈ m++qmu c t,0≤x∧x < (qie c:Nat):=by
 intro x hx
 rcases List.mem_append.1 hx with h | h
 ·exact (hm.mono (by unfold qie; omega)).b x h
 ·exact (q0r c t).b x h
set_option maxHeartbeats 1000000 in
theorem z8e {c:Ct} {s:Ste} (hs:Rdy c s) {st:St} (h0:At (T16 0 (s,[])) (h16 c 0 (s,[])) st):∃ r,ev pg (.code (.going 10 L54_0) st)=some r∧zot c (qlr c s) r:=by
 generalize hR:qlr c s=Z
 refine qdp 65 T16 (h16 c) (G86 c Z) _ ?_ ?_ (s,[]) ⟨hR,hs,Lin.nil _,fun _=>rfl⟩ h0
 ·rintro k ⟨t,l⟩ f hf hk hG
  have hgo:=hG.go
  have hrd:=hG.rdy
  have hl:=hG.lin
  have hn:=hG.nil
  simp only at hgo hrd hl hn
  have hk':(k:Int) < 65:=by omega
  have wk:=qab (n:=(k:Int) + 1) (by omega) (by omega)
  have w1:IntKind.i64.wrap 1=1:=by decide
  have hN:=qmp hrd.mid
  rw [show 65 - k=(64 - k) + 1 by omega,qfl] at hgo
  cases hZ:qcw c t with
  | none =>
   have e46:=ev89_none hrd hZ
   rw [qsw.2 hZ] at hgo
   simp only at hgo
   subst hgo
   simp [T16,L54_0,hk',e46,hf.ne]
   exact .inl ⟨k,t,zeroS,by simp [z3f,hf.ne,zeroS,zuk]⟩
  | some x =>
   obtain ⟨v,m⟩:=x
   have e46:=ev89_some hrd hZ
   have hrv:qdj c t=some (qlp (qpm c v),norm (qie c) (m++qmu c v)):=by unfold qdj; rw [hZ]; rfl
   rw [hrv] at hgo
   simp only at hgo
   have hru:=hrd.round hrv
   have hml:=qti hZ
   have hin:=zha (t:=v) hml
   have hmn:=hml.len
   have hcn:=(q0r c v).len
   have hln:=hl.len
   have e54:=ev59 (qie c) l (m++qmu c v) (by omega) (by simp; unfold qie at hN hcn; omega) (fun x hx=>(List.mem_append.1 hx).elim (hl.b x) (hin x))
   rw [q7m] at hgo
   have hl':Lin (qie c) (norm (qie c) (l++(m++qmu c v))):=Lin.norm _ _
   have e47:=ev90 (qlp (qpm c v)) t hru.small
   rw [qow] at e47
   generalize norm (qie c) (l++(m++qmu c v))=p at *
   generalize m++qmu c v=q at *
   generalize qlp (qpm c v)=u at *
   by_cases hst:qkp t u=true
   ·rw [if_pos hst] at hgo
    rw [hst] at e47
    subst hgo
    obtain rfl:=qip.1 hst
    unfold T16 sl0 h16 ob0
    by_cases hk0:k=0
    ·subst hk0
     rw [hn rfl] at e54
     have e54':ev pg (.call (.fn 59 [] []) [.imm [],qck q] [])=_:=e54
     simp [L54_0,e46,e54',e47,hf.ne]
     simp [zot,z0e,hf.ne]
    ·simp [L54_0,hk0,hk',e46,e54,e47,hf.ne]
     simp [zot,z0e,hf.ne]
   ·have hsf:qkp t u=false:=by simpa using hst
    rw [if_neg hst] at hgo
    rw [hsf] at e47
    have hG':G86 c Z (k + 1) (u,p):=⟨by rw [← hgo,show 65 - (k + 1)=64 - k by omega],hru,hl',by omega⟩
    unfold T16 sl0 h16 ob0
    by_cases hk0:k=0
    ·subst hk0
     rw [hn rfl] at e54
     have e54':ev pg (.call (.fn 59 [] []) [.imm [],qck q] [])=_:=e54
     simp [L54_0,e46,e54',e47,w1,hf.ne]
     exact ⟨u,p,hG',by simp⟩
    ·simp [L54_0,hk0,hk',wk,e46,e54,e47,hf.ne]
     exact ⟨u,p,hG',by simp⟩
 ·rintro ⟨t,l⟩ f hf hG
  have hgo:=hG.go
  simp only [Nat.sub_self,qfl] at hgo
  subst hgo
  simp [T16,L54_0]
  exact .inr ⟨(t,l),by simp [T16,hf.ne]⟩
theorem ev54 (c:Ct) (s:Ste) (hfew:c.small=true) (hs:s.small):ev pg (.call (.fn 54 [] []) [c.v,s.v] [])=some { v:=znc (qqx c s),st:=⟨[],[]⟩ }:=by
 have e45:=ev88 c s hfew hs
 unfold qqx
 rw [qac,pg54]
 by_cases h:stE c s=0
 ·have hl:=@z8e c s ⟨hfew,h⟩
  rw [if_pos h]
  rw [h] at e45
  unfold qji
  generalize qlr c s=Z at *
  simp [ir54,e45,qag]
  generalize hr:ev pg (.code (.going _ L54_0) _)=o
  obtain ⟨r,rfl,hQ⟩:∃ r,o=some r∧_:=by rw [← hr]; exact hl (by simp [T16,sl0,ob0])
  clear hr
  cases Z with
  | none =>
   rcases hQ with ⟨k,s,t,f,hf,rfl⟩ | ⟨⟨s,l⟩,f,hf,rfl⟩
   ·simp [z3f,zeroS]
   ·simp [T16,zeroS,ob0]
  | some p =>
   obtain ⟨t,m⟩:=p
   obtain ⟨f,hf,rfl⟩:=hQ
   simp [z0e]
 ·rw [if_neg h]
  have hb:(stE c s == 0)=false:=by simpa using h
  generalize stE c s=e at *
  simp [ir54,e45,h,hb,zeroS]
theorem ev91 (c:Ct) (s:Ste) (hfew:c.small=true) (hs:s.small):ev pg (.call (.fn 91 [] []) [c.v,s.v] [])=some { v:=.tup [.bool (q5e c s).1,num (q5e c s).2],st:=⟨[],[]⟩ }:=by
 have e45:=ev88 c s hfew hs
 unfold q5e
 rw [qac,pg91]
 by_cases h:stE c s=0
 ·have hR:Rdy c s:=⟨hfew,h⟩
  rw [if_pos h]
  rw [h] at e45
  unfold qzt
  cases hZ:qcw c s with
  | none =>
   have e46:=ev89_none hR hZ
   rw [qsw.2 hZ]
   simp [ir91,e45,e46,zeroS]
  | some x =>
   obtain ⟨v,m⟩:=x
   have e46:=ev89_some hR hZ
   have hrv:qdj c s=some (qlp (qpm c v),norm (qie c) (m++qmu c v)):=by unfold qdj; rw [hZ]; rfl
   have e47:=ev90 (qlp (qpm c v)) s (hR.round hrv).small
   rw [qow] at e47
   rw [hrv]
   simp only [Option.map_some,Option.getD_some]
   generalize qkp s (qlp (qpm c v))=b at *
   generalize qlp (qpm c v)=u at *
   simp [ir91,e45,e46,e47]
 ·rw [if_neg h]
  have hb:(stE c s == 0)=false:=by simpa using h
  generalize stE c s=e at *
  simp [ir91,e45,h,hb]
theorem ev55 (c:Ct) (s:Ste) (hfew:c.small=true) (hs:s.small):ev pg (.call (.fn 55 [] []) [c.v,s.v] [])=some { v:=num (quE c s),st:=⟨[],[]⟩ }:=by
 have e11:=ev91 c s hfew hs
 unfold q5e at e11
 unfold quE
 rw [qac,pg55]
 by_cases h:stE c s=0
 ·rw [if_pos h] at e11 ⊢
  simp only at e11
  cases hb:qzt c s <;> rw [hb] at e11 <;> simp [ir55,e11]
 ·rw [if_neg h] at e11 ⊢
  simp only at e11
  have hb:(stE c s == 0)=false:=by simpa using h
  generalize stE c s=e at *
  simp [ir55,e11,h,hb]
end Go.Proofs.YtlhciedghbmjjaaGreat
