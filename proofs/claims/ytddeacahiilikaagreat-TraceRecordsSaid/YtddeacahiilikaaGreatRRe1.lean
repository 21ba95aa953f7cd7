/- Quiet and Events of the reference. The plant comes to rest, by the program. -/
import Derived.Test.YtddeacahiilikaaGreatRBe2
import Derived.KernelRfl
set_option linter.all false
namespace Go.Proofs.YtddeacahiilikaaGreat
open Go Go.Am Go.Proofs
set_option maxRecDepth 100000
def qqd(c:Ct)(s:Ste):Bool:=((qcw c s).map fun x=>qhd s x.1).getD false
theorem ev225{c:Ct}{s:Ste}(h:Rdy c s):ev pg (.call (.fn 225 [] []) [c.v,s.v] [])=some { v:=.bool (qqd c s),st:=⟨[],[]⟩ }:=by
 have h83:=ev266 h
 unfold qqd
 rw[qac,pg225]
 cases hZ:qcw c s with
 | none =>
  rw[hZ]at h83
  simp[qsy]at h83
  simp[ir225,h83]
 | some x =>
  obtain⟨t,m⟩:=x
  have h20:=ev267 s t h.small
  rw[hZ]at h83
  simp[qsy]at h83
  simp[ir225,h83,h20]
def q3e(c:Ct)(s:Ste):Bool×Int:=if stE c s=0 then(qqd c s,0)else(false,stE c s)
def quE(c:Ct)(s:Ste):Int:=if stE c s=0 then(if qqd c s=true then 0 else 14)else stE c s
theorem ev173(c:Ct)(s:Ste)(hfew:c.small=true)(hs:s.small):ev pg (.call (.fn 173 [] []) [c.v,s.v] [])=some { v:=num (quE c s),st:=⟨[],[]⟩ }:=by
 have h27:=ev224' c s hfew hs
 unfold quE
 rw[qac,pg173]
 by_cases h:stE c s=0
 .have h48:=ev225 ⟨hfew,h⟩
  rw[if_pos h]
  rw[h]at h27
  cases hb:qqd c s<;>rw[hb]at h48<;>simp[ir173,h27,h48]
 .rw[if_neg h]
  have hb:(stE c s==0)=false:=by simpa using h
  generalize stE c s=e at *
  simp[ir173,h27,h,hb]
abbrev evs(l:List Evn):V:=.imm (l.map Evn.row)
def qpb(kd:Int)(p:Nat->Bool)(k:Nat):List Evn:=((List.range k).filter p).map fun(i:Nat)=>⟨kd,i,false⟩
theorem qzh(kd:Int)(p:Nat->Bool)(k:Nat):qpb kd p (k+1)=if p k=true then qpb kd p k++[⟨kd,k,false⟩]else qpb kd p k:=by
 unfold qpb
 rw[List.range_succ,List.filter_append,List.map_append]
 cases h:p k<;>simp[h]
theorem qnx(kd:Int)(p:Nat->Bool)(k:Nat):(qpb kd p k).length<=k:=by
 unfold qpb
 rw[List.length_map]
 exact Nat.le_trans (List.length_filter_le _ _) (by simp)
theorem qwi(s:Ste):qtc s=qpb 0 (qcr s 0) s.ends.length++qpb 1 (qcr s 1) s.timers.length:=rfl
abbrev h53(s:Ste)(l:List Evn)(a:Nat×Nat):H:=[⟨0,.box s.cells⟩,o0,⟨a.1,.arr a.2 (l.map Evn.row)⟩]
def zpe(s:Ste)(k:Nat)(a:Nat×Nat):Tm:=[none,some (.bptr 0 0),some (.sl 1 0 0 0 0),some (.sl 2 a.1 a.2 0 (qpb 0 (qcr s 0) k).length),some (num k)]++List.replicate 46 none
def zpf(s:Ste)(k:Nat)(a:Nat×Nat):Tm:=[none,some (.bptr 0 0),some (.sl 1 0 0 0 0),some (.sl 2 a.1 a.2 0 (qpb 0 (qcr s 0) s.ends.length++qpb 1 (qcr s 1) k).length),none,some (num k)]++List.replicate 45 none
abbrev gm3(a:Nat×Nat):Prop:=a.2=3\/a.2=0
theorem z1t(s:Ste)(hs:s.small){st:St}(a0:Nat×Nat)(g0:gm3 a0)(h0:At (zpe s 0 a0) (h53 s (qpb 0 (qcr s 0) 0) a0) st):∃r,ev pg (.code (.going 3 L269_0) st)=some r/\∃a,gm3 a/\qaj (.exit 0) (zpe s s.ends.length a) (h53 s (qpb 0 (qcr s 0) s.ends.length) a) r:=by
 have hse:=hs.e
 refine qci s.ends.length (zpe s) (fun k a=>h53 s (qpb 0 (qcr s 0) k) a) (fun _ a=>gm3 a) _ ?_ ?_ a0 g0 h0
 .rintro k ⟨g,m⟩ f hf hk hG
  have hk':(k:Int)<s.ends.length:=by omega
  have wk:=qab (n:=(k:Int)+1) (by omega) (by omega)
  have hsl:=qnx 0 (qcr s 0) k
  have hp:qcr s 0 k=(s.ends[k]==1||s.ends[k]==3):=by
   unfold qcr;rw[if_pos rfl,jA hk];rfl
  unfold zpe h53
  rw[qzh,hp]
  generalize qpb 0 (qcr s 0) k=B at *
  have hb1:(B.length+1)*24<=140737488355328:=by omega
  have hmm:m=3\/m=0:=hG
  by_cases h1:s.ends[k]=1
  .rcases hmm with rfl | rfl<;>simp[L269_0,hk,hk',wk,h1,hb1,hf.ne]
  .have h1b:(s.ends[k]==1)=false:=by simpa using h1
   by_cases h3:s.ends[k]=3
   .rcases hmm with rfl | rfl<;>simp[L269_0,hk,hk',wk,h3,hb1,hf.ne]
   .have h3b:(s.ends[k]==3)=false:=by simpa using h3
    rcases hmm with rfl | rfl<;>simp[L269_0,hk,hk',wk,h1,h1b,h3,h3b,hf.ne]
 .rintro⟨g,m⟩ f hf hG
  unfold zpe h53
  generalize qpb 0 (qcr s 0) s.ends.length=B at *
  have hmm:m=3\/m=0:=hG
  rcases hmm with rfl | rfl<;>simp[L269_0,hf.ne]
theorem z1u(s:Ste)(hs:s.small){st:St}(a0:Nat×Nat)(g0:gm3 a0)(h0:At (zpf s 0 a0) (h53 s (qpb 0 (qcr s 0) s.ends.length++qpb 1 (qcr s 1) 0) a0) st):∃r,ev pg (.code (.going 3 L269_1) st)=some r/\∃a,gm3 a/\qaj (.exit 2) (zpf s s.timers.length a) (h53 s (qtc s) a) r:=by
 have hse:=hs.e
 have hst:=hs.t
 rw[qwi]
 refine qci s.timers.length (zpf s) (fun k a=>h53 s (qpb 0 (qcr s 0) s.ends.length++qpb 1 (qcr s 1) k) a) (fun _ a=>gm3 a) _ ?_ ?_ a0 g0 h0
 .rintro k ⟨g,m⟩ f hf hk hG
  have hk':(k:Int)<s.timers.length:=by omega
  have wk:=qab (n:=(k:Int)+1) (by omega) (by omega)
  have hsl:=qnx 1 (qcr s 1) k
  have hsl0:=qnx 0 (qcr s 0) s.ends.length
  have hp:qcr s 1 k=(s.timers[k]==1):=by
   unfold qcr;rw[if_neg (by omega),jA hk];rfl
  unfold zpf h53
  rw[qzh,hp]
  generalize qpb 0 (qcr s 0) s.ends.length=B0 at *
  generalize qpb 1 (qcr s 1) k=B at *
  have hb1:(B0.length+(B.length+1))*24<=140737488355328:=by omega
  have hmm:m=3\/m=0:=hG
  by_cases h1:s.timers[k]=1
  .rcases hmm with rfl | rfl<;>simp[L269_1,hk,hk',wk,h1,hb1,hf.ne,Nat.add_assoc]
  .have h1b:(s.timers[k]==1)=false:=by simpa using h1
   rcases hmm with rfl | rfl<;>simp[L269_1,hk,hk',wk,h1,h1b,hf.ne]
 .rintro⟨g,m⟩ f hf hG
  unfold zpf h53
  generalize qpb 0 (qcr s 0) s.ends.length++qpb 1 (qcr s 1) s.timers.length=B at *
  have hmm:m=3\/m=0:=hG
  rcases hmm with rfl | rfl<;>simp[L269_1,hf.ne]
theorem ev269(s:Ste)(hs:s.small):ev pg (.call (.fn 269 [] []) [s.v] [])=some { v:=evs (qtc s),st:=⟨[],[]⟩ }:=by
 have hl1:=@z1t s hs
 have hl2:=@z1u s hs
 have z:qpb 1 (qcr s 1) 0=[]:=rfl
 have z0:qpb 0 (qcr s 0) 0=[]:=rfl
 unfold zpf at hl2
 unfold zpe at hl1
 rw[z,List.append_nil,<-qwi]at hl2
 rw[z0]at hl1
 generalize qpb 0 (qcr s 0) s.ends.length=B0 at *
 generalize qtc s=B at *
 rw[qac,pg269]
 simp[ir269,qaf]
 generalize hr:ev pg (.code (.going _ L269_0) _)=o
 obtain⟨r,rfl,⟨g,m⟩,hm,f,hf,rfl⟩:∃r,o=some r/\_:=by rw[<-hr];exact hl1 (0,0) (.inr rfl) (by simp)
 clear hr
 have hmm:m=3\/m=0:=hm
 rcases hmm with rfl | rfl<;>simp[hf.ne]
 .generalize hr:ev pg (.code (.going _ L269_1) _)=o
  obtain⟨r,rfl,⟨g2,m2⟩,hm2,f2,hf2,rfl⟩:∃r,o=some r/\_:=by rw[<-hr];exact hl2 (g,3) (.inl rfl) (by simp[hf.ne])
  clear hr
  have hmm2:m2=3\/m2=0:=hm2
  rcases hmm2 with rfl | rfl<;>simp
 .generalize hr:ev pg (.code (.going _ L269_1) _)=o
  obtain⟨r,rfl,⟨g2,m2⟩,hm2,f2,hf2,rfl⟩:∃r,o=some r/\_:=by rw[<-hr];exact hl2 (g,0) (.inr rfl) (by simp[hf.ne])
  clear hr
  have hmm2:m2=3\/m2=0:=hm2
  rcases hmm2 with rfl | rfl<;>simp
theorem q5f{N:Nat}{l m:List Int}:norm N (l++norm N m)=norm N (l++m) :=
 que fun x h1 h2=>by rw[jQ,jQ,qiy];exact⟨fun a=>a.elim .inl (fun b=>.inr b.1),fun a=>a.elim .inl (fun b=>.inr ⟨b,h1,h2⟩)⟩
theorem qsg{c:Ct}{s:Ste}:qcw c s=none<->qby c s=none:=by
 unfold qcw
 cases qby c s<;>simp
abbrev h16(c:Ct)(k:Nat)(a:Ste×List Int):H:=[⟨0,.box c.cells⟩,⟨0,.box a.1.cells⟩,o0,o0,o0,o0,o0,⟨0,.box (qwx 2)⟩,o0,ob0 k]
def T16(k:Nat)(a:Ste×List Int):Tm:=[none,none,some (.bptr 0 0),some (.bptr 1 0),some (.bptr 7 0),some (.sl 8 0 0 0 0),some (num 0),none,some (sl0 k a.2),none,none,none,none,none,none,none,none,none,none,some (num k)]++List.replicate 23 none
def ztl(m:List Int):Tm:=[none,none,none,none,some (.bptr 7 0),some (qel m),some (num 0)]++List.replicate 36 none
abbrev z3c(c:Ct)(k:Nat)(s t:Ste):H:=[⟨0,.box c.cells⟩,⟨0,.box s.cells⟩,o0,o0,o0,o0,o0,⟨0,.box (qwx 16)⟩,o0,ob0 k,o0,o0,o0,o0,o0,⟨0,.box t.cells⟩,o0,o0,o0,o0,o0]
def zzl:Tm:=[none,none,none,none,some (.bptr 7 0),some .nils,some (num 21)]++List.replicate 36 none
def zgc(c:Ct)(Z:Option (Ste×List Int))(r:R):Prop:=match Z with
 | some (t,m)=>qaj .ret (ztl m) (z2n c t) r
 | none=>(∃k s t,qaj .ret zzl (z3c c k s t) r)\/∃a,qaj (.exit 0) (T16 65 a) (h16 c 65 a) r
theorem zbz{c:Ct}{t:Ste}{m:List Int}(hm:Lin (qah c c.act.toNat) m):∀x∈m++qka c t,0<=x/\x<(qhn c:Nat):=by
 intro x hx
 rcases jQ.1 hx with h | h
 .exact(hm.mono (by unfold qhn;omega)).b x h
 .exact(qre c t).b x h
set_option maxHeartbeats 1000000 in
theorem z3i{c:Ct}{s:Ste}(hs:Rdy c s){st:St}(h0:At (T16 0 (s,[])) (h16 c 0 (s,[])) st):∃r,ev pg (.code (.going 10 L45_0) st)=some r/\zgc c (qjs c s) r:=by
 generalize hR:qjs c s=Z
 refine qci 65 T16 (h16 c) (G86 c Z) _ ?_ ?_ (s,[]) ⟨hR,hs,Lin.nil _,fun _=>rfl⟩ h0
 .rintro k ⟨t,l⟩ f hf hk hG
  have hgo:=hG.go
  have hrd:=hG.rdy
  have hl:=hG.lin
  have hn:=hG.nil
  simp only at hgo hrd hl hn
  have hk':(k:Int)<65:=by omega
  have wk:=qab (n:=(k:Int)+1) (by omega) (by omega)
  have w1:IntKind.i64.wrap 1=1:=by decide
  have hN:=qlx hrd.mid
  rw[show 65-k=(64-k)+1 by omega,qha]at hgo
  cases hZ:qby c t with
  | none =>
   have e46:=ev112_none hrd hZ
   rw[qsg.2 hZ]at hgo
   simp only at hgo
   subst hgo
   simp[T16,L45_0,hk',e46,hf.ne]
   exact .inl ⟨k,t,zeroS,by simp[zzl,hf.ne,zeroS,zfw]⟩
  | some x =>
   obtain⟨v,m⟩:=x
   have e46:=ev112_some hrd hZ
   have hrv:qcw c t=some (qiv (qhl c v),norm (qhn c) (m++qka c v)):=by unfold qcw;rw[hZ];rfl
   rw[hrv]at hgo
   simp only at hgo
   have hru:=hrd.round hrv
   have hml:=qmk hZ
   have hin:=zbz (t:=v) hml
   have hmn:=hml.len
   have hcn:=(qre c v).len
   have hln:=hl.len
   have e54:=ev113 (qhn c) l (m++qka c v) (by omega) (by simp;unfold qhn at hN hcn;omega) (fun x hx=>(jQ.1 hx).elim (hl.b x) (hin x))
   rw[q5f]at hgo
   have hl':Lin (qhn c) (norm (qhn c) (l++(m++qka c v))):=Lin.norm _ _
   have e47:=ev114 (qiv (qhl c v)) t hru.small
   rw[qpa]at e47
   generalize norm (qhn c) (l++(m++qka c v))=p at *
   generalize m++qka c v=q at *
   generalize qiv (qhl c v)=u at *
   by_cases hst:qhd t u=true
   .rw[if_pos hst]at hgo
    rw[hst]at e47
    subst hgo
    obtain rfl:=qhe.1 hst
    unfold T16 sl0 h16 ob0
    by_cases hk0:k=0
    .subst hk0
     rw[hn rfl]at e54
     have e54':ev pg (.call (.fn 113 [] []) [.imm [],qel q] [])=_:=e54
     simp[L45_0,e46,e54',e47,hf.ne]
     simp[zgc,ztl,hf.ne]
    .simp[L45_0,hk0,hk',e46,e54,e47,hf.ne]
     simp[zgc,ztl,hf.ne]
   .have hsf:qhd t u=false:=by simpa using hst
    rw[if_neg hst]at hgo
    rw[hsf]at e47
    have hG':G86 c Z (k+1) (u,p):=⟨by rw[<-hgo,show 65-(k+1)=64-k by omega],hru,hl',by omega⟩
    unfold T16 sl0 h16 ob0
    by_cases hk0:k=0
    .subst hk0
     rw[hn rfl]at e54
     have e54':ev pg (.call (.fn 113 [] []) [.imm [],qel q] [])=_:=e54
     simp[L45_0,e46,e54',e47,w1,hf.ne]
     exact⟨u,p,hG',by simp⟩
    .simp[L45_0,hk0,hk',wk,e46,e54,e47,hf.ne]
     exact⟨u,p,hG',by simp⟩
 .rintro⟨t,l⟩ f hf hG
  have hgo:=hG.go
  simp only[Nat.sub_self,qha]at hgo
  subst hgo
  simp[T16,L45_0]
  exact .inr ⟨(t,l),by simp[T16,hf.ne]⟩
theorem ev45(c:Ct)(s:Ste)(hfew:c.small=true)(hs:s.small):ev pg (.call (.fn 45 [] []) [c.v,s.v] [])=some { v:=q5u (qqk c s),st:=⟨[],[]⟩ }:=by
 have e45:=ev111 c s hfew hs
 unfold qqk
 rw[qac,pg45]
 by_cases h:stE c s=0
 .have hl:=@z3i c s ⟨hfew,h⟩
  rw[if_pos h]
  rw[h]at e45
  unfold qkg
  generalize qjs c s=Z at *
  simp[ir45,e45,qaf]
  generalize hr:ev pg (.code (.going _ L45_0) _)=o
  obtain⟨r,rfl,hQ⟩:∃r,o=some r/\_:=by rw[<-hr];exact hl (by simp[T16,sl0,ob0])
  clear hr
  cases Z with
  | none =>
   rcases hQ with⟨k,s,t,f,hf,rfl⟩ | ⟨⟨s,l⟩,f,hf,rfl⟩
   .simp[zzl,zeroS]
   .simp[T16,zeroS,ob0]
  | some p =>
   obtain⟨t,m⟩:=p
   obtain⟨f,hf,rfl⟩:=hQ
   simp[ztl]
 .rw[if_neg h]
  have hb:(stE c s==0)=false:=by simpa using h
  generalize stE c s=e at *
  simp[ir45,e45,h,hb,zeroS]
end Go.Proofs.YtddeacahiilikaaGreat
