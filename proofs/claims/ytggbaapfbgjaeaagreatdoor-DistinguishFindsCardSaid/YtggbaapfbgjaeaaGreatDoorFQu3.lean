/- Quiet, by. -/
import Derived.Test.YtggbaapfbgjaeaaGreatDoorFBe2
set_option linter.all false
namespace Go.Proofs.YtggbaapfbgjaeaaGreatDoor
open Go Go.Am Go.Proofs
set_option maxRecDepth 100000
def q6t(c:Ct)(s:Ste):Bool:=((qcf c s).map fun x=>qjb s x.1).getD false
def zbk(c:Ct)(s:Ste):Bool×Int:=if stE c s=0 then(q6t c s,0)else(false,stE c s)
def quE(c:Ct)(s:Ste):Int:=if stE c s=0 then(if q6t c s=true then 0 else 14)else stE c s
abbrev evs(l:List Evn):V:=.imm (l.map Evn.row)
def qji(kd:Int)(p:Nat->Bool)(k:Nat):List Evn:=((List.range k).filter p).map fun(i:Nat)=>⟨kd,i,false⟩
theorem qsb(kd:Int)(p:Nat->Bool)(k:Nat):qji kd p (k+1)=if p k=true then qji kd p k++[⟨kd,k,false⟩]else qji kd p k:=by unfold qji;rw[List.range_succ,List.filter_append,List.map_append];cases h:p k<;>simp[h]
theorem qjz(kd:Int)(p:Nat->Bool)(k:Nat):(qji kd p k).length<=k:=by unfold qji;rw[List.length_map];exact Nat.le_trans (List.length_filter_le _ _) (by simp)
theorem qvp(s:Ste):qjk s=qji 0 (qbr s 0) s.ends.length++qji 1 (qbr s 1) s.timers.length:=rfl
abbrev h53(s:Ste)(l:List Evn)(a:Nat×Nat):H:=[⟨0,.box s.cells⟩,o0,⟨a.1,.arr a.2 (l.map Evn.row)⟩]
def zvz(s:Ste)(k:Nat)(a:Nat×Nat):Tm:=[none,bN 0,some (.sl 1 0 0 0 0),some (.sl 2 a.1 a.2 0 (qji 0 (qbr s 0) k).length),nN k]++zN 46
def zwa(s:Ste)(k:Nat)(a:Nat×Nat):Tm:=[none,bN 0,some (.sl 1 0 0 0 0),some (.sl 2 a.1 a.2 0 (qji 0 (qbr s 0) s.ends.length++qji 1 (qbr s 1) k).length),none,nN k]++zN 45
abbrev gm3(a:Nat×Nat):Prop:=a.2=3\/a.2=0
theorem z3v(s:Ste)(hs:s.small){st:St}(a0:Nat×Nat)(g0:gm3 a0)(h0:At (zvz s 0 a0) (h53 s (qji 0 (qbr s 0) 0) a0) st):∃r,ev pg (.code (.going 3 L137_0) st)=some r/\∃a,gm3 a/\qar (.exit 0) (zvz s s.ends.length a) (h53 s (qji 0 (qbr s 0) s.ends.length) a) r:=by
 have hse:=hs.e;refine qcg s.ends.length (zvz s) (fun k a=>h53 s (qji 0 (qbr s 0) k) a) (fun _ a=>gm3 a) _ ?_ ?_ a0 g0 h0
 .rintro k ⟨g,m⟩ f hf hk hG;have hk':(k:Int)<s.ends.length:=by omega
  have wk:=qbc k;have hsl:=qjz 0 (qbr s 0) k;have hp:qbr s 0 k=(s.ends[k]==1||s.ends[k]==3):=by unfold qbr;rw[if_pos rfl,jA hk];rfl
  unfold zvz h53;rw[qsb,hp];generalize qji 0 (qbr s 0) k=B at *;have hb1:(B.length+1)*24<=140737488355328:=by omega
  have hmm:m=3\/m=0:=hG;by_cases h1:s.ends[k]=1
  .rcases hmm with rfl | rfl<;>simp[L137_0,hk,hk',wk,h1,hb1,hf.ne]
  .have h1b:(s.ends[k]==1)=false:=by simpa using h1
   by_cases h3:s.ends[k]=3
   .rcases hmm with rfl | rfl<;>simp[L137_0,hk,hk',wk,h3,hb1,hf.ne]
   .have h3b:(s.ends[k]==3)=false:=by simpa using h3
    rcases hmm with rfl | rfl<;>simp[L137_0,hk,hk',wk,h1,h1b,h3,h3b,hf.ne]
 .rintro⟨g,m⟩ f hf hG;unfold zvz h53;generalize qji 0 (qbr s 0) s.ends.length=B at *;have hmm:m=3\/m=0:=hG;rcases hmm with rfl | rfl<;>simp[L137_0,hf.ne]
theorem z3w(s:Ste)(hs:s.small){st:St}(a0:Nat×Nat)(g0:gm3 a0)(h0:At (zwa s 0 a0) (h53 s (qji 0 (qbr s 0) s.ends.length++qji 1 (qbr s 1) 0) a0) st):∃r,ev pg (.code (.going 3 L137_1) st)=some r/\∃a,gm3 a/\qar (.exit 2) (zwa s s.timers.length a) (h53 s (qjk s) a) r:=by
 have hse:=hs.e;have hst:=hs.t;rw[qvp];refine qcg s.timers.length (zwa s) (fun k a=>h53 s (qji 0 (qbr s 0) s.ends.length++qji 1 (qbr s 1) k) a) (fun _ a=>gm3 a) _ ?_ ?_ a0 g0 h0
 .rintro k ⟨g,m⟩ f hf hk hG;have hk':(k:Int)<s.timers.length:=by omega
  have wk:=qbc k;have hsl:=qjz 1 (qbr s 1) k;have hsl0:=qjz 0 (qbr s 0) s.ends.length;have hp:qbr s 1 k=(s.timers[k]==1):=by unfold qbr;rw[if_neg (by omega),jA hk];rfl
  unfold zwa h53;rw[qsb,hp];generalize qji 0 (qbr s 0) s.ends.length=B0 at *;generalize qji 1 (qbr s 1) k=B at *;have hb1:(B0.length+(B.length+1))*24<=140737488355328:=by omega
  have hmm:m=3\/m=0:=hG;by_cases h1:s.timers[k]=1
  .rcases hmm with rfl | rfl<;>simp[L137_1,hk,hk',wk,h1,hb1,hf.ne,Nat.add_assoc]
  .have h1b:(s.timers[k]==1)=false:=by simpa using h1
   rcases hmm with rfl | rfl<;>simp[L137_1,hk,hk',wk,h1,h1b,hf.ne]
 .rintro⟨g,m⟩ f hf hG;unfold zwa h53;generalize qji 0 (qbr s 0) s.ends.length++qji 1 (qbr s 1) s.timers.length=B at *;have hmm:m=3\/m=0:=hG;rcases hmm with rfl | rfl<;>simp[L137_1,hf.ne]
theorem ev137(s:Ste)(hs:s.small):ev pg (.call (fnq 137) [s.v] [])=some (rvq (evs (qjk s))):=by
 have hl1:=@z3v s hs;have hl2:=@z3w s hs;have z:qji 1 (qbr s 1) 0=[]:=rfl;have z0:qji 0 (qbr s 0) 0=[]:=rfl;unfold zwa at hl2;unfold zvz at hl1;rw[z,List.append_nil,<-qvp]at hl2;rw[z0]at hl1;generalize qji 0 (qbr s 0) s.ends.length=B0 at *;generalize qjk s=B at *;rw[qaa,pg137.1];simp[ir137,qai];generalize hr:ev pg (.code (.going _ L137_0) _)=o;obtain⟨r,rfl,⟨g,m⟩,hm,f,hf,rfl⟩:∃r,o=some r/\_:=by rw[<-hr];exact hl1 (0,0) (.inr rfl) (by simp)
 clear hr;have hmm:m=3\/m=0:=hm;rcases hmm with rfl | rfl<;>simp[hf.ne]
 .generalize hr:ev pg (.code (.going _ L137_1) _)=o;obtain⟨r,rfl,⟨g2,m2⟩,hm2,f2,hf2,rfl⟩:∃r,o=some r/\_:=by rw[<-hr];exact hl2 (g,3) (.inl rfl) (by simp[hf.ne])
  clear hr;have hmm2:m2=3\/m2=0:=hm2;rcases hmm2 with rfl | rfl<;>simp
 .generalize hr:ev pg (.code (.going _ L137_1) _)=o;obtain⟨r,rfl,⟨g2,m2⟩,hm2,f2,hf2,rfl⟩:∃r,o=some r/\_:=by rw[<-hr];exact hl2 (g,0) (.inr rfl) (by simp[hf.ne])
  clear hr;have hmm2:m2=3\/m2=0:=hm2;rcases hmm2 with rfl | rfl<;>simp
def qke(c:Ct)(s:Ste):List Evn×Int:=if quE c s=0 then(qjk s,0)else([],quE c s)
theorem zdz{N:Nat}{l m:List Int}:norm N (l++norm N m)=norm N (l++m) :=
 q0h fun x h1 h2=>by rw[jQ,jQ,qlp];exact⟨fun a=>a.elim .inl (fun b=>.inr b.1),fun a=>a.elim .inl (fun b=>.inr ⟨b,h1,h2⟩)⟩
theorem qye{c:Ct}{s:Ste}:qcf c s=none<->qby c s=none:=by unfold qcf;cases qby c s<;>simp
abbrev h16(c:Ct)(k:Nat)(a:Ste×List Int):H:=[⟨0,.box c.cells⟩,⟨0,.box a.1.cells⟩,o0,o0,o0,o0,o0,⟨0,.box (q3u 2)⟩,o0,ob0 k]
def T16(k:Nat)(a:Ste×List Int):Tm:=[none,none,bN 0,bN 1,bN 7,some (.sl 8 0 0 0 0),nN 0,none,some (sl0 k a.2),none,none,none,none,none,none,none,none,none,none,nN k]++zN 23
def z1b(m:List Int):Tm:=[none,none,none,none,bN 7,some (qcr m),nN 0]++zN 36
abbrev z6j(c:Ct)(k:Nat)(s t:Ste):H:=[⟨0,.box c.cells⟩,⟨0,.box s.cells⟩,o0,o0,o0,o0,o0,⟨0,.box (q3u 16)⟩,o0,ob0 k,o0,o0,o0,o0,o0,⟨0,.box t.cells⟩,o0,o0,o0,o0,o0]
def z2i:Tm:=[none,none,none,none,bN 7,some .nils,nN 21]++zN 36
def zqy(c:Ct)(Z:Option (Ste×List Int))(r:R):Prop:=match Z with
 | some (t,m)=>qar .ret (z1b m) (z5k c t) r
 | none=>(∃k s t,qar .ret z2i (z6j c k s t) r)\/∃a,qar (.exit 0) (T16 65 a) (h16 c 65 a) r
theorem zmh{c:Ct}{t:Ste}{m:List Int}(hm:Lin (qad c c.act.toNat) m):∀x∈m++qms c t,0<=x/\x<(qqq c:Nat):=by
 intro x hx;rcases jQ.1 hx with h | h
 .exact(hm.mono (by unfold qqq;omega)).b x h
 .exact(qwd c t).b x h
set_option maxHeartbeats 1000000 in
theorem z6n{c:Ct}{s:Ste}(hs:Rdy c s){st:St}(h0:At (T16 0 (s,[])) (h16 c 0 (s,[])) st):∃r,ev pg (.code (.going 10 L132_0) st)=some r/\zqy c (qiy c s) r:=by
 generalize hR:qiy c s=Z;refine qcg 65 T16 (h16 c) (G86 c Z) _ ?_ ?_ (s,[]) ⟨hR,hs,Lin.nil _,fun _=>rfl⟩ h0
 .rintro k ⟨t,l⟩ f hf hk hG;have hgo:=hG.go;have hrd:=hG.rdy;have hl:=hG.lin;have hn:=hG.nil;simp only at hgo hrd hl hn;have hk':(k:Int)<65:=by omega
  have wk:=qbc k;have w1:IntKind.i64.wrap 1=1:=by decide
  have hN:=q1n hrd.mid;rw[show 65-k=(64-k)+1 by omega,qgx]at hgo;cases hZ:qby c t with
  | none =>have e46:=ev180_none hrd hZ;rw[qye.2 hZ]at hgo;simp only at hgo;subst hgo;simp[T16,L132_0,hk',e46,hf.ne];exact .inl ⟨k,t,qfa,by simp[z2i,hf.ne,qfa,zqm]⟩
  | some x =>
   obtain⟨v,m⟩:=x;have e46:=ev180_some hrd hZ;have hrv:qcf c t=some (qkf (qgq c v),norm (qqq c) (m++qms c v)):=by unfold qcf;rw[hZ];rfl
   rw[hrv]at hgo;simp only at hgo;have hru:=hrd.round hrv;have hml:=qqi hZ;have hin:=zmh (t:=v) hml;have hmn:=hml.len;have hcn:=(qwd c v).len;have hln:=hl.len;have e54:=ev181 (qqq c) l (m++qms c v) (by omega) (by simp;unfold qqq at hN hcn;omega) (fun x hx=>(jQ.1 hx).elim (hl.b x) (hin x));rw[zdz]at hgo;have hl':Lin (qqq c) (norm (qqq c) (l++(m++qms c v))):=Lin.norm _ _;have e47:=ev182 (qkf (qgq c v)) t hru.small;rw[qtp]at e47;generalize norm (qqq c) (l++(m++qms c v))=p at *;generalize m++qms c v=q at *;generalize qkf (qgq c v)=u at *;by_cases hst:qjb t u=true
   .rw[if_pos hst]at hgo;rw[hst]at e47;subst hgo;obtain rfl:=qhv.1 hst;unfold T16 sl0 h16 ob0;by_cases hk0:k=0
    .subst hk0;rw[hn rfl]at e54;have e54':ev pg (.call (fnq 181) [.imm [],qcr q] [])=_:=e54;simp[L132_0,e46,e54',e47,hf.ne];simp[zqy,z1b,hf.ne]
    .simp[L132_0,hk0,hk',e46,e54,e47,hf.ne];simp[zqy,z1b,hf.ne]
   .have hsf:qjb t u=false:=by simpa using hst
    rw[if_neg hst]at hgo;rw[hsf]at e47;have hG':G86 c Z (k+1) (u,p):=⟨by rw[<-hgo,show 65-(k+1)=64-k by omega],hru,hl',by omega⟩
    unfold T16 sl0 h16 ob0;by_cases hk0:k=0
    .subst hk0;rw[hn rfl]at e54;have e54':ev pg (.call (fnq 181) [.imm [],qcr q] [])=_:=e54;simp[L132_0,e46,e54',e47,w1,hf.ne];exact⟨u,p,hG',by simp⟩
    .simp[L132_0,hk0,hk',wk,e46,e54,e47,hf.ne];exact⟨u,p,hG',by simp⟩
 .rintro⟨t,l⟩ f hf hG;have hgo:=hG.go;simp only[Nat.sub_self,qgx]at hgo;subst hgo;simp[T16,L132_0];exact .inr ⟨(t,l),by simp[T16,hf.ne]⟩
theorem ev132(c:Ct)(s:Ste)(hfew:c.small=true)(hs:s.small):ev pg (.call (fnq 132) [c.v,s.v] [])=some (rvq (zec (quz c s))):=by
 have e45:=ev179 c s hfew hs;unfold quz;rw[qaa,pg132.1];by_cases h:stE c s=0
 .have hl:=@z6n c s ⟨hfew,h⟩;rw[if_pos h];rw[h]at e45;unfold qjn;generalize qiy c s=Z at *;simp[ir132,e45,qai];generalize hr:ev pg (.code (.going _ L132_0) _)=o;obtain⟨r,rfl,hQ⟩:∃r,o=some r/\_:=by rw[<-hr];exact hl (by simp[T16,sl0,ob0])
  clear hr;cases Z with
  | none =>
   rcases hQ with⟨k,s,t,f,hf,rfl⟩ | ⟨⟨s,l⟩,f,hf,rfl⟩
   .simp[z2i,qfa]
   .simp[T16,qfa,ob0]
  | some p =>obtain⟨t,m⟩:=p;obtain⟨f,hf,rfl⟩:=hQ;simp[z1b]
 .rw[if_neg h];have hb:(stE c s==0)=false:=by simpa using h
  generalize stE c s=e at *;simp[ir132,e45,h,hb,qfa]
theorem ev215(c:Ct)(s:Ste)(hfew:c.small=true)(hs:s.small):ev pg (.call (fnq 215) [c.v,s.v] [])=some (rvq (.tup [.bool (zbk c s).1,num (zbk c s).2])):=by
 have e45:=ev179 c s hfew hs;unfold zbk;rw[qaa,pg215.1];by_cases h:stE c s=0
 .have hR:Rdy c s:=⟨hfew,h⟩
  rw[if_pos h];rw[h]at e45;unfold q6t;cases hZ:qby c s with
  | none =>have e46:=ev180_none hR hZ;rw[qye.2 hZ];simp[ir215,e45,e46,qfa]
  | some x =>
   obtain⟨v,m⟩:=x;have e46:=ev180_some hR hZ;have hrv:qcf c s=some (qkf (qgq c v),norm (qqq c) (m++qms c v)):=by unfold qcf;rw[hZ];rfl
   have e47:=ev182 (qkf (qgq c v)) s (hR.round hrv).small;rw[qtp]at e47;rw[hrv];simp only[Option.map_some,Option.getD_some];generalize qjb s (qkf (qgq c v))=b at *;generalize qkf (qgq c v)=u at *;simp[ir215,e45,e46,e47]
 .rw[if_neg h];have hb:(stE c s==0)=false:=by simpa using h
  generalize stE c s=e at *;simp[ir215,e45,h,hb]
theorem ev184(c:Ct)(s:Ste)(hfew:c.small=true)(hs:s.small):ev pg (.call (fnq 184) [c.v,s.v] [])=some (rvq (num (quE c s))):=by
 have e11:=ev215 c s hfew hs;unfold zbk at e11;unfold quE;rw[qaa,pg184.1];by_cases h:stE c s=0
 .rw[if_pos h]at e11 ⊢;simp only at e11;cases hb:q6t c s<;>rw[hb]at e11<;>simp[ir184,e11]
 .rw[if_neg h]at e11 ⊢;simp only at e11;have hb:(stE c s==0)=false:=by simpa using h
  generalize stE c s=e at *;simp[ir184,e11,h,hb]
abbrev z5t:List V:=[.sl 5 0 0 0 0,.fn 217 [] [.bptr 2 0],.bptr 4 0,.undef,.sl 6 0 0 0 0,.undef,.fn 217 [] [.bptr 2 0],.undef,.undef,.undef,.undef,.undef,.undef]
abbrev Mp(c:Ct)(s:Ste)(l:List Evn)(a:Nat×Nat):H:=[⟨0,.box c.cells⟩,⟨0,.box s.cells⟩,⟨0,.box s.cells⟩,⟨a.1,.arr a.2 (l.map Evn.row)⟩,⟨0,.box [.sl 3 a.1 a.2 0 l.length]⟩,o0,o0,⟨0,.loop z5t [7] L216_0 L216_1 none⟩]
theorem z0i(c:Ct)(s:Ste)(l:List Evn)(a:Nat×Nat)(ha:gm3 a)(hl:l.length<=100000)(x:Evn):ev pg (.call (.yld 7) [.agg x.row] (Mp c s l a))=some { v:=.bool true,st:=⟨[],Mp c s (l++[x]) (a.1+1,3)⟩ }:=by
 obtain⟨g,m⟩:=a;have hb:(l.length+1)*24<=140737488355328:=by omega
 have hmm:m=3\/m=0:=ha;rw[qia];rcases hmm with rfl | rfl<;>simp[qci,L216_0,L216_1,hb]
def zrk(s:Ste)(k:Nat):Tm:=[some (.yld 7),bN 2,none,none,none,none,none,none,some (qcr s.ends),some (num s.ends.length),nN k]++zN 36
def zlm(s:Ste)(k:Nat):Tm:=[some (.yld 7),bN 2]++zN 28++[some (qcr s.timers),some (num s.timers.length),nN k]++zN 14
theorem z3z(c:Ct)(s:Ste)(hs:s.small){st:St}(a0:Nat×Nat)(g0:gm3 a0)(h0:At (zrk s 0) (Mp c s (qji 0 (qbr s 0) 0) a0) st):∃r,ev pg (.code (.going 8 L217_0) st)=some r/\∃a,gm3 a/\qar (.exit 0) (zrk s s.ends.length) (Mp c s (qji 0 (qbr s 0) s.ends.length) a) r:=by
 have hse:=hs.e;refine qcg s.ends.length (fun k _=>zrk s k) (fun k a=>Mp c s (qji 0 (qbr s 0) k) a) (fun _ a=>gm3 a) _ ?_ ?_ a0 g0 h0
 .rintro k a f hf hk hG;have hk':(k:Int)<s.ends.length:=by omega
  have wk:=qbc k;have hsl:=qjz 0 (qbr s 0) k;have hp:qbr s 0 k=(s.ends[k]==1||s.ends[k]==3):=by unfold qbr;rw[if_pos rfl,jA hk];rfl
  have hy:=z0i c s (qji 0 (qbr s 0) k) a hG (by omega) ⟨0,k,false⟩;have hG':gm3 (a.1+1,3):=.inl rfl;have hGa:gm3 a:=hG;rw[qsb,hp];generalize qji 0 (qbr s 0) k=B at *;unfold zrk;obtain⟨g,m⟩:=a;have hmm:m=3\/m=0:=hGa;by_cases h1:s.ends[k]=1
  .rcases hmm with rfl | rfl<;>simp[L217_0,hk,hk',wk,h1,hy,hf.ne]
  .have h1b:(s.ends[k]==1)=false:=by simpa using h1
   by_cases h3:s.ends[k]=3
   .rcases hmm with rfl | rfl<;>simp[L217_0,hk,hk',wk,h3,hy,hf.ne]
   .have h3b:(s.ends[k]==3)=false:=by simpa using h3
    rcases hmm with rfl | rfl<;>simp[L217_0,hk,hk',wk,h1,h1b,h3,h3b,hf.ne]
 .rintro⟨g,m⟩ f hf hG;unfold zrk;generalize qji 0 (qbr s 0) s.ends.length=B at *;have hmm:m=3\/m=0:=hG;rcases hmm with rfl | rfl<;>simp[L217_0,hf.ne]
theorem z4a(c:Ct)(s:Ste)(hs:s.small){st:St}(a0:Nat×Nat)(g0:gm3 a0)(h0:At (zlm s 0) (Mp c s (qji 0 (qbr s 0) s.ends.length++qji 1 (qbr s 1) 0) a0) st):∃r,ev pg (.code (.going 8 L217_1) st)=some r/\∃a,gm3 a/\qar (.exit 2) (zlm s s.timers.length) (Mp c s (qjk s) a) r:=by
 have hse:=hs.e;have hst:=hs.t;rw[qvp];refine qcg s.timers.length (fun k _=>zlm s k) (fun k a=>Mp c s (qji 0 (qbr s 0) s.ends.length++qji 1 (qbr s 1) k) a) (fun _ a=>gm3 a) _ ?_ ?_ a0 g0 h0
 .rintro k a f hf hk hG;have hk':(k:Int)<s.timers.length:=by omega
  have wk:=qbc k;have hsl:=qjz 1 (qbr s 1) k;have hsl0:=qjz 0 (qbr s 0) s.ends.length;have hp:qbr s 1 k=(s.timers[k]==1):=by unfold qbr;rw[if_neg (by omega),jA hk];rfl
  have hy:=z0i c s (qji 0 (qbr s 0) s.ends.length++qji 1 (qbr s 1) k) a hG (by simp;omega) ⟨1,k,false⟩;have hGa:gm3 a:=hG;rw[qsb,hp];generalize qji 0 (qbr s 0) s.ends.length=B0 at *;generalize qji 1 (qbr s 1) k=B at *;unfold zlm;obtain⟨g,m⟩:=a;have hmm:m=3\/m=0:=hGa;by_cases h1:s.timers[k]=1
  .rcases hmm with rfl | rfl<;>simp[L217_1,hk,hk',wk,h1,hy,Nat.add_assoc,hf.ne]
  .have h1b:(s.timers[k]==1)=false:=by simpa using h1
   rcases hmm with rfl | rfl<;>simp[L217_1,hk,hk',wk,h1,h1b,hf.ne]
 .rintro⟨g,m⟩ f hf hG;unfold zlm;generalize qji 0 (qbr s 0) s.ends.length++qji 1 (qbr s 1) s.timers.length=B at *;have hmm:m=3\/m=0:=hG;rcases hmm with rfl | rfl<;>simp[L217_1,hf.ne]
theorem ev217(c:Ct)(s:Ste)(hs:s.small):∃a,gm3 a/\ev pg (.call (.fn 217 [] [.bptr 2 0]) [.yld 7] (Mp c s [] (0,0)))=some { v:=.tup [],st:=⟨[],Mp c s (qjk s) a⟩ }:=by
 have hl1:=@z3z c s hs;have hl2:=@z4a c s hs;have z:qji 1 (qbr s 1) 0=[]:=rfl;have z0:qji 0 (qbr s 0) 0=[]:=rfl;rw[z,List.append_nil]at hl2;rw[z0]at hl1;generalize qji 0 (qbr s 0) s.ends.length=B0 at *;generalize qjk s=B at *;have key:∃r a,ev pg (.call (.fn 217 [] [.bptr 2 0]) [.yld 7] (Mp c s [] (0,0)))=some r/\gm3 a/\r={ v:=.tup [],st:=⟨[],Mp c s B a⟩ }:=by
  rw[qaa,pg217.1];simp[ir217,qai];generalize hr:ev pg (.code (.going _ L217_0) _)=o;obtain⟨r,rfl,⟨g,m⟩,hm,f,hf,rfl⟩:∃r,o=some r/\_:=by rw[<-hr];exact hl1 (0,0) (.inr rfl) (by simp[zrk])
  clear hr;have hmm:m=3\/m=0:=hm;rcases hmm with rfl | rfl<;>simp[zrk,hf.ne]
  .generalize hr:ev pg (.code (.going _ L217_1) _)=o;obtain⟨r,rfl,⟨g2,m2⟩,hm2,f2,hf2,rfl⟩:∃r,o=some r/\_:=by rw[<-hr];exact hl2 (g,3) (.inl rfl) (by simp[zlm,hf.ne])
   clear hr;have hmm2:m2=3\/m2=0:=hm2;rcases hmm2 with rfl | rfl<;>simp[zlm]
   all_goals first | exact⟨g2,3,.inl rfl,by simp⟩ | exact⟨g2,0,.inr rfl,by simp⟩
  .generalize hr:ev pg (.code (.going _ L217_1) _)=o;obtain⟨r,rfl,⟨g2,m2⟩,hm2,f2,hf2,rfl⟩:∃r,o=some r/\_:=by rw[<-hr];exact hl2 (g,0) (.inr rfl) (by simp[zlm,hf.ne])
   clear hr;have hmm2:m2=3\/m2=0:=hm2;rcases hmm2 with rfl | rfl<;>simp[zlm]
   all_goals first | exact⟨g2,3,.inl rfl,by simp⟩ | exact⟨g2,0,.inr rfl,by simp⟩
 obtain⟨r,a,e,ha,rfl⟩:=key;exact⟨a,ha,e⟩
theorem ev216(c:Ct)(s:Ste)(hs:s.small):ev pg (.call (fnq 216) [.nils,.fn 217 [] [.bptr 2 0]] [⟨0,.box c.cells⟩,⟨0,.box s.cells⟩,⟨0,.box s.cells⟩])=some { v:=evs (qjk s),st:=⟨[],[⟨0,.box c.cells⟩,⟨0,.box s.cells⟩,⟨0,.box s.cells⟩]⟩ }:=by obtain⟨⟨g,m⟩,hm,e85⟩:=ev217 c s hs;generalize qjk s=B at *;have hmm:m=3\/m=0:=hm;have e85':ev pg (.call (.fn 217 [] [.bptr 2 0]) [.yld 7] [⟨0,.box c.cells⟩,⟨0,.box s.cells⟩,⟨0,.box s.cells⟩,o0,⟨0,.box [.sl 3 0 0 0 0]⟩,o0,o0,⟨0,.loop z5t [7] L216_0 L216_1 none⟩])=_:=e85;rw[qaa,pg216.1];rcases hmm with rfl | rfl<;>simp[ir216,qfm,e85']
theorem ev185(c:Ct)(s:Ste)(hs:s.small):ev pg (.call (fnq 185) [.fn 217 [] [.bptr 2 0]] [⟨0,.box c.cells⟩,⟨0,.box s.cells⟩,⟨0,.box s.cells⟩])=some { v:=evs (qjk s),st:=⟨[],[⟨0,.box c.cells⟩,⟨0,.box s.cells⟩,⟨0,.box s.cells⟩]⟩ }:=by have e84:=ev216 c s hs;generalize qjk s=B at *;rw[qaa,pg185.1];simp[ir185,e84]
theorem ev186(c:Ct)(s:Ste):ev pg (.call (fnq 186) [s.v] [⟨0,.box c.cells⟩,⟨0,.box s.cells⟩])=some { v:=.fn 217 [] [.bptr 2 0],st:=⟨[],[⟨0,.box c.cells⟩,⟨0,.box s.cells⟩,⟨0,.box s.cells⟩]⟩ }:=by rw[qaa,pg186.1];simp[ir186]
theorem ev134(c:Ct)(s:Ste)(hfew:c.small=true)(hs:s.small):ev pg (.call (fnq 134) [c.v,s.v] [])=some (rvq (.tup [evs (qke c s).1,num (qke c s).2])):=by
 have e49:=ev184 c s hfew hs;have e50:=ev185 c s hs;have e51:=ev186 c s;unfold qke;rw[qaa,pg134.1];by_cases h:quE c s=0
 .rw[if_pos h];rw[h]at e49;generalize qjk s=p at *;simp[ir134,e49,e50,e51]
 .rw[if_neg h];have hb:(quE c s==0)=false:=by simpa using h
  generalize quE c s=e at *;simp[ir134,e49,h,hb]
end Go.Proofs.YtggbaapfbgjaeaaGreatDoor
