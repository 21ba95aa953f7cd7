/- Names that are not there yet, by the reference. -/
import Derived.Test.YtbepbclaoohngaaGreatVSa2
import Derived.Test.YtbepbclaoohngaaGreatVCq3
import Derived.Test.YtbepbclaoohngaaGreatVSa1
set_option linter.all false
namespace Go.Proofs.YtbepbclaoohngaaGreat
open Go Go.Am Go.Proofs
set_option maxRecDepth 100000
theorem ev256{h:H}{i:Nat}{m:Int}(hi:h[i]?=some ⟨0,.box [num m]⟩)(hcl:calm h)(n:Int):ev pg (.call (.fn 256 [] [.bptr i 0]) [num n] h)=some { v:=.bool (qgc m n),st:=⟨[],h⟩ }:=by
 have hck:=qge hcl
 rw[qaa,pg256]
 unfold qgc
 by_cases h1:n<0
 .simp[-qef,ir256,h1,hck]
 .simp[-qef,ir256,h1,hi,hck]
theorem ev255(n:Int)(h:H):ev pg (.call (.fn 255 [] []) [num n] h)=some { v:=.fn 256 [] [.bptr h.length 0],st:=⟨[],h++[⟨0,.box [num n]⟩]⟩ }:=by
 rw[qaa,pg255]
 simp[ir255]
abbrev zyx(c:Ct)(s:Ste):H:=[⟨0,.box c.cells⟩,⟨0,.box s.cells⟩,⟨0,.box [num 4]⟩,⟨0,.box [num 3]⟩]
def T79(c:Ct)(s:Ste)(k:Nat):Tm:=[none,none,bN 0,bN 1]++zN 59++[some (qeg s.timers),some (num s.timers.length),nN k]++zN 31
def z3n:Tm:=[none,none,none,none,nN 14]++zN 92
theorem zzl(c:Ct)(s:Ste)(hs:s.small)(hS:Shp c s){st:St}(h0:At (T79 c s 0) (zyx c s) st):∃r,ev pg (.code (.going 4 L218_0) st)=some r/\qkt s.timers.length (tmF c s) (fun _=>qaq .ret z3n (zyx c s)) (qaq (.exit 0) (T79 c s s.timers.length) (zyx c s)) r:=by
 have hse:=hs.t
 have hv:=hS.v
 have ht:=hS.t
 refine qby _ _ (T79 c s) (zyx c s) _ _ ?_ ?_ ?_ h0
 .intro k f hf hk hp
  have hk':(k:Int)<s.timers.length:=by omega
  have hkv:k<s.values.length:=by omega
  have hkc:k<c.signals.length:=by omega
  have wk:=qbb (k:=k) (by omega)
  have hp':tmB c.signals[k].kind s.values[k] s.timers[k]=false:=by simpa[tmF,hk,hkv,hkc]using hp
  simp[tmB]at hp'
  by_cases h2:c.signals[k].kind=2
  .have hq:=hp'.2 h2
   simp[T79,L218_0,hk,hk',hkv,hkc,h2,hq,wk,hf.ne]
  .have h0:=hp'.1 h2
   have h2b:(c.signals[k].kind==2)=false:=by simpa using h2
   simp[T79,L218_0,hk,hk',hkv,hkc,h2b,h0,wk,hf.ne]
 .intro k f hf hk hp
  have hk':(k:Int)<s.timers.length:=by omega
  have hkv:k<s.values.length:=by omega
  have hkc:k<c.signals.length:=by omega
  have hp':tmB c.signals[k].kind s.values[k] s.timers[k]=true:=by simpa[tmF,hk,hkv,hkc]using hp
  simp[tmB]at hp'
  by_cases h2:c.signals[k].kind=2
  .have hq:¬s.values[k]=(s.timers[k]==2):=by simpa[h2]using hp'
   simp[T79,z3n,L218_0,hk,hk',hkv,hkc,h2,hq,hf.ne]
  .have h0:(s.timers[k] != 0)=true:=by simpa[h2]using hp'
   have h2b:(c.signals[k].kind==2)=false:=by simpa using h2
   simp[T79,z3n,L218_0,hk,hk',hkv,hkc,h2b,h0,hf.ne]
 .intro f hf
  simp[T79,L218_0,hf.ne]
theorem ev218(c:Ct)(s:Ste)(hs:s.small):ev pg (.call (.fn 218 [] []) [c.v,s.v] [])=some { v:=num (zbz c s),st:=⟨[],[]⟩ }:=by
 rw[qaa,pg218]
 by_cases hS:Shp c s
 .have hl:=@zzl c s hs hS
  have e1:((s.ends.length:Int) != c.act)=false:=by simp[hS.e]
  have e2:((s.valves.length:Int) != c.act)=false:=by simp[hS.w]
  have e3:((s.inputs.length:Int) != (c.inputs.length:Int))=false:=by simp[hS.i]
  have e4:((s.values.length:Int) != (c.signals.length:Int))=false:=by simp[hS.v]
  have e5:((s.timers.length:Int) != (c.signals.length:Int))=false:=by simp[hS.t]
  have m4:=ev255 4 (h49 c s)
  have m3:=ev255 3 [⟨0,.box c.cells⟩,⟨0,.box s.cells⟩,⟨0,.box [num 4]⟩]
  have a4:=ev213 (f:=256) (caps:=[.bptr 2 0]) (h:=[⟨0,.box c.cells⟩,⟨0,.box s.cells⟩,⟨0,.box [num 4]⟩]) (l:=s.ends) (p:=qgc 4) hs.e rfl rfl (ev256 (by rfl) (by simp[calm])) (by simp[calm])
  have a3:=ev213 (f:=256) (caps:=[.bptr 3 0]) (h:=zyx c s) (l:=s.timers) (p:=qgc 3) hs.t rfl rfl (ev256 (by rfl) (by simp[calm])) (by simp[calm])
  unfold zbz
  rw[if_pos hS]
  generalize s.ends.any (qgc 4)=b1 at *
  generalize s.timers.any (qgc 3)=b2 at *
  generalize hB3:zor (tmF c s) s.timers.length=B3
  cases b1 with
  | true=>simp[qab,exT,qal,ir218,e1,e2,e3,e4,e5,m4,a4]
  | false=>cases b2 with
   | true=>simp[qab,exT,qal,ir218,e1,e2,e3,e4,e5,m4,a4,m3,a3]
   | false =>
    simp[qab,exT,qal,ir218,qah,e1,e2,e3,e4,e5,m4,a4,m3,a3]
    generalize hr:ev pg (.code (.going _ L218_0) _)=o
    obtain⟨r,rfl,hQ⟩:∃r,o=some r/\_:=by rw[<-hr];exact hl (by simp[T79])
    rcases hQ with⟨k,hk,hp,-,f,hf,rfl⟩ | ⟨hp,f,hf,rfl⟩
    .obtain rfl:B3=true:=by rw[<-hB3];exact q0p hk hp
     simp[z3n]
    .obtain rfl:B3=false:=by rw[<-hB3];exact que hp
     simp[T79]
 .have hn:=zjg hS
  unfold zbz
  rw[if_neg hS]
  generalize e1:((s.ends.length:Int) != c.act)=b1 at hn
  generalize e2:((s.valves.length:Int) != c.act)=b2 at hn
  generalize e3:((s.inputs.length:Int) != (c.inputs.length:Int))=b3 at hn
  generalize e4:((s.values.length:Int) != (c.signals.length:Int))=b4 at hn
  generalize e5:((s.timers.length:Int) != (c.signals.length:Int))=b5 at hn
  cases b1 with
  | true=>simp[ir218,e1]
  | false=>cases b2 with
   | true=>simp[ir218,e1,e2]
   | false=>cases b3 with
    | true=>simp[ir218,e1,e2,e3]
    | false=>cases b4 with
     | true=>simp[ir218,e1,e2,e3,e4]
     | false=>cases b5 with
      | true=>simp[ir218,e1,e2,e3,e4,e5]
      | false=>simp at hn
abbrev stE(c:Ct)(s:Ste):Int:=if c.check=0 then zbz c s else c.check
theorem ev147(c:Ct)(s:Ste)(hfew:c.small=true)(hs:s.small):ev pg (.call (.fn 147 [] []) [c.v,s.v] [])=some { v:=num (stE c s),st:=⟨[],[]⟩ }:=by
 have h1:=ev87 c hfew
 have h2:=ev218 c s hs
 rw[qaa,pg147]
 unfold stE
 generalize c.check=e at *
 by_cases he:e=0
 .subst he
  simp[ir147,h1,h2]
 .simp[ir147,h1,he]
theorem ev151(l:List Bool)(hl:l.length<=4096):ev pg (.call (.fn 151 [] []) [qdw l] [])=some { v:=.sl 0 0 1 0 l.length,st:=⟨[],[⟨0,.arr 1 (l.map qfa)⟩]⟩ }:=by
 rw[qaa,pg151]
 cases l with
 | nil=>simp[ir151,qcn,qex,qei]
 | cons x l =>
  have h47:(l.length+1)*1<=140737488355328:=by
   simp only[List.length_cons]at hl
   omega
  have h48:l.length+1<=140737488355328:=by omega
  simp[ir151,h47,h48,qcn,qex,qei]
theorem ev221g(n:Nat)(hn2:n<=100000):ev pg (.call (.fn 221 [] []) [.nils,num n] [⟨0,.arr 0 []⟩])=some (if n=0 then { v:=.nils,st:=⟨[],[⟨0,.arr 0 []⟩]⟩ }else { v:=.sl 1 0 1 0 0,st:=⟨[],[⟨0,.arr 0 []⟩,⟨0,.arr 1 []⟩]⟩ }):=by
 have w1:=qan (n:=(n:Int)) (by omega) (by omega)
 have p1:¬((n:Int)<0):=by omega
 have w0:=qan (n:=0) (by omega) (by omega)
 have p3:n*8<=140737488355328:=by omega
 have p4:n<=140737488355328:=by omega
 rw[qaa,pg221]
 rcases Nat.eq_zero_or_pos n with rfl | hn
 .simp[ir221,w0,qcn,qex,qei]
 .have hn0:n≠0:=by omega
  rw[if_neg hn0]
  simp[ir221,w0,w1,p1,hn,p3,p4,qcn,qex,qei]
  try omega
abbrev qkh(L:List (List Int))(k:Nat):Nat:=(L.take k).flatten.length
theorem qyx{L:List (List Int)}{k:Nat}(hk:k<L.length):qkh L (k+1)=qkh L k+L[k].length:=by
 unfold qkh
 rw[jK hk,jZ]
 simp
theorem q9q(L:List (List Int))(k:Nat):qkh L k<=L.flatten.length:=by
 unfold qkh
 have:L.flatten=(L.take k).flatten++(L.drop k).flatten:=by rw[<-jZ,List.take_append_drop]
 rw[this,jF]
 omega
abbrev zjz(L:List (List Int)):V:=.imm (L.map fun l=>[qeg l])
def zkf(L:List (List Int))(k:Nat):Tm:=[some (zjz L),none,some (.sl 0 0 0 0 0),nN (qkh L k)]++zN 5++[some (zjz L),nN L.length,nN k]++zN 24
theorem ztv(L:List (List Int))(hL:L.length<=4096)(hN:L.flatten.length<=100000){st:St}(h0:At (zkf L 0) [⟨0,.arr 0 []⟩] st):∃r,ev pg (.code (.going 1 L155_0) st)=some r/\qaq (.exit 0) (zkf L L.length) [⟨0,.arr 0 []⟩] r:=by
 refine qhj L.length (zkf L) (fun _=>[⟨0,.arr 0 []⟩]) _ ?_ ?_ h0
 .intro k f hf hk
  have hk':(k:Int)<L.length:=by omega
  have wk:=qbb (k:=k) (by omega)
  have hs:=qyx hk
  have hle:=q9q L (k+1)
  have w2:=qan (n:=(qkh L k:Int)+(L[k].length:Int)) (by omega) (by omega)
  have w3:¬(qkh L k:Int)+(L[k].length:Int)<0:=by omega
  unfold zkf
  rw[hs]
  generalize qkh L k=n at *
  simp[L155_0,hk,hk',wk,w2,w3,hf.ne]
 .intro f hf
  unfold zkf
  generalize qkh L L.length=n at *
  simp[L155_0,hf.ne]
def zwi(L:List (List Int))(k:Nat)(a:Nat×Nat):Tm:=[some (zjz L),none,some (.sl 0 0 0 0 0),none,none,none,some (.sl 1 a.1 a.2 0 (qkh L k))]++zN 18++[some (zjz L),nN L.length,nN k]++zN 8
abbrev zws(X:H)(L:List (List Int))(k:Nat)(a:Nat×Nat):H:=⟨0,.arr 0 []⟩ :: ⟨a.1,.arr a.2 ((L.take k).flatten.map qbj)⟩ :: X
theorem ztw(X:H)(hX:X=[]\/X=[⟨0,.arr 0 []⟩])(L:List (List Int))(hL:L.length<=4096)(hN:L.flatten.length<=100000){st:St}(a0:Nat×Nat)(g0:a0.2=1\/(a0.2=0/\(0:Nat)=0))(h0:At (zwi L 0 a0) (zws X L 0 a0) st):∃r,ev pg (.code (.going (2+X.length) L155_1) st)=some r/\∃a:Nat×Nat,(a.2=1\/(a.2=0/\L.length=0))/\qaq (.exit 2) (zwi L L.length a) (zws X L L.length a) r:=by
 refine qdb L.length (zwi L) (zws X L) (fun k a=>a.2=1\/(a.2=0/\k=0)) _ ?_ ?_ a0 g0 h0
 .rintro k ⟨g,m⟩ f hf hk hG
  have hk':(k:Int)<L.length:=by omega
  have wk:=qbb (k:=k) (by omega)
  have hs:=qyx hk
  have hle:=q9q L (k+1)
  have hfl:(L.take (k+1)).flatten=(L.take k).flatten++L[k]:=by rw[jK hk,jZ];simp
  have hb:(qkh L k+L[k].length)*8<=140737488355328:=by omega
  have hb1:qkh L k+L[k].length<=140737488355328:=by omega
  have hb2:(L.take k).flatten.length+L[k].length<=140737488355328:=hb1
  have hmm:m=1\/m=0:=hG.elim .inl fun h=>.inr h.1
  have hlen:(L.take k).flatten.length=qkh L k:=rfl
  unfold zwi zws
  rw[hs,hfl]
  generalize qkh L k=n at *
  generalize (L.take k).flatten=W at *
  rcases hX with rfl | rfl<;>rcases hmm with rfl | rfl<;>simp[L155_1,hk,hk',wk,hb,hb1,hb2,hlen,hf.ne]
 .rintro⟨g,m⟩ f hf hG
  unfold zwi zws
  generalize qkh L L.length=n at *
  generalize (L.take L.length).flatten=W at *
  rcases hX with rfl | rfl<;>simp[L155_1,hf.ne]<;>exact⟨g,hG.elim (fun h=>.inl ⟨rfl,h⟩) fun h=>.inr ⟨⟨h.1,List.length_eq_zero_iff.1 h.2⟩,rfl⟩⟩
theorem ev155c(L:List (List Int))(hL:L.length<=4096)(hL0:L≠[])(hN:L.flatten.length<=100000):ev pg (.call (.fn 155 [] []) [zjz L] [])=some { v:=.sl 0 0 1 0 L.flatten.length,st:=⟨[],[⟨0,.arr 1 (L.flatten.map qbj)⟩]⟩ }:=by
 have hla:=@ztv L hL hN
 have hlb:=fun X hX=>@ztw X hX L hL hN
 have hg:=ev221g L.flatten.length hN
 have hn:qkh L L.length=L.flatten.length:=by unfold qkh;rw[List.take_length]
 have h0:qkh L 0=0:=by simp[qkh]
 have ha0:∀st:St,At ([some (zjz L),none,some (.sl 0 0 0 0 0),some (num 0)]++List.replicate 5 none++[some (zjz L),some (num L.length),some (num 0)]++List.replicate 24 none) [⟨0,.arr 0 []⟩] st->At (zkf L 0) [⟨0,.arr 0 []⟩] st:=fun st h=>by
  unfold zkf
  rw[h0]
  exact h
 unfold zws at hlb
 simp only[List.take_length,List.take_zero]at hlb
 unfold zwi at hlb
 simp only[hn,h0]at hlb
 have hle:∀f,fill f 0 (zkf L L.length)=fill f 0 ([some (zjz L),none,some (.sl 0 0 0 0 0),some (num L.flatten.length)]++List.replicate 5 none++[some (zjz L),some (num L.length),some (num L.length)]++List.replicate 24 none):=fun f=>by
  unfold zkf
  rw[hn]
 have hlen:(L.flatten.map qbj).length=L.flatten.length:=List.length_map ..
 generalize L.flatten.map qbj=W at *
 generalize L.flatten.length=N at *
 rw[qaa,pg155]
 simp[ir155,qah]
 generalize hr:ev pg (.code (.going _ L155_0) _)=o
 obtain⟨r,rfl,f,hf,rfl⟩:∃r,o=some r/\_:=by rw[<-hr];exact hla (ha0 _ (by simp))
 clear hr
 rw[hle]
 by_cases hz:N=0
 .rw[if_pos hz]at hg
  simp[hg,hf.ne,qah]
  generalize hr:ev pg (.code (.going _ L155_1) _)=o
  obtain⟨r,rfl,⟨g,m⟩,hm,f,hf,rfl⟩:∃r,o=some r/\_:=by rw[<-hr];exact hlb [⟨0,.arr 0 []⟩] (.inr rfl) (0,0) (.inr ⟨rfl,trivial⟩) (by simp[hf.ne])
  obtain rfl:m=1:=hm.elim id fun h=>absurd (List.length_eq_zero_iff.1 h.2) hL0
  simp[qcn,qex,qei,hlen]
 .rw[if_neg hz]at hg
  simp[hg,hf.ne,qah]
  generalize hr:ev pg (.code (.going _ L155_1) _)=o
  obtain⟨r,rfl,⟨g,m⟩,hm,f,hf,rfl⟩:∃r,o=some r/\_:=by rw[<-hr];exact hlb [] (.inl rfl) (0,1) (.inl rfl) (by simp[hf.ne])
  obtain rfl:m=1:=hm.elim id fun h=>absurd (List.length_eq_zero_iff.1 h.2) hL0
  simp[qcn,qex,qei,hlen]
def I98(c:Ct)(A:Nat)(t:Txt)(k:Nat)(st:St):Prop:=st.h=[⟨0,.box c.cells⟩]/\st.s.length=18/\qai st.s 1=.str t/\qai st.s 2=.bptr 0 0/\qai st.s 5=num k/\∀j,j<k->qbl c A j≠t
def Q98(c:Ct)(A:Nat)(t:Txt)(r:R):Prop:=r.st.s.length=18/\((r.x=.exit 0/\¬t∈qax c A (qac c A))\/(r.x=.ret/\(∃k:Nat,qai r.st.s 4=num k)/\t∈qax c A (qac c A)))
theorem zzo{c:Ct}{A:Nat}(hM:Mid c A)(t:Txt)(st:St)(h0:I98 c A t 0 st):∃r,ev pg (.code (.going 1 L236_0) st)=some r/\Q98 c A t r:=by
 have hcN:qac c A<=172:=by
  obtain⟨_,g1,g2,g3,g4⟩:=hM
  unfold qac
  omega
 have h67:=ev186 hM
 refine qau (I98 c A t) (qac c A) (Q98 c A t) h0 ?_ ?_
 .rintro k ⟨s,hh⟩ hk ⟨rfl,hl,e1,e2,e5,he⟩
  simp only at hl e1 e2 e5
  have hk':(k:Int)<(qac c A:Nat):=by omega
  have wk:=qbb (k:=k) (by omega)
  have h99:=ev195 hM k hk
  have hmem:qbl c A k=t->t∈qax c A (qac c A):=fun e=>List.mem_map.2 ⟨k,List.mem_range.2 hk,e⟩
  have hnext:qbl c A k≠t->∀j,j<k+1->qbl c A j≠t:=fun e j hj=>by
   by_cases h1:j=k
   .rw[h1];exact e
   .exact he j (by omega)
  unfold Q98
  generalize qax c A (qac c A)=K at *
  generalize qac c A=N at *
  by_cases hb:qbl c A k=t
  .have n1:(qbl c A k==t)=true:=by simpa using hb
   have hm:=hmem hb
   rw[qad hl]
   simp[L236_0,List.range,List.range.loop,e1,e2,e5,h67,h99,hk',n1]
   exact⟨⟨k,rfl⟩,hm⟩
  .have n1:(qbl c A k==t)=false:=by simpa using hb
   have hm:=hnext hb
   rw[qad hl]
   simp[L236_0,I98,List.range,List.range.loop,e1,e2,e5,h67,h99,hk',n1,wk]
   exact hm
 .rintro⟨s,hh⟩ ⟨rfl,hl,e1,e2,e5,he⟩
  simp only at hl e1 e2 e5
  have hno:¬t∈qax c A (qac c A):=fun h=>by
   obtain⟨j,hj,e⟩:=List.mem_map.1 h
   exact he j (List.mem_range.1 hj) e
  unfold Q98
  generalize qax c A (qac c A)=K at *
  generalize qac c A=N at *
  rw[qad hl]
  simp[L236_0,List.range,List.range.loop,e1,e2,e5,h67]
  exact hno
theorem ev236{c:Ct}{A:Nat}(hM:Mid c A)(t:Txt):∃r:Int,ev pg (.call (.fn 236 [] []) [c.v,.str t] [])=some { v:=num r,st:=⟨[],[]⟩ }/\(0<=r<->t∈qax c A (qac c A)):=by
 have hloop:=zzo hM t
 have hI:∀st:St,(st.h=[⟨0,.box c.cells⟩]/\st.s.length=18/\qai st.s 1=.str t/\qai st.s 2=.bptr 0 0/\qai st.s 5=num 0)->I98 c A t 0 st:=fun st h=>⟨h.1,h.2.1,h.2.2.1,h.2.2.2.1,h.2.2.2.2,fun j hj=>by omega⟩
 unfold Q98 at hloop
 generalize qax c A (qac c A)=K at *
 rw[qaa,pg236]
 simp[ir236,qah]
 generalize hr:ev pg (.code (.going _ L236_0) _)=o
 obtain⟨r,rfl,hl,hQ⟩:∃r,o=some r/\_:=by
  rw[<-hr]
  exact hloop _ (hI _ ⟨by simp,by simp,by simp,by simp,by simp⟩)
 rcases hQ with⟨hx,hno⟩ | ⟨hx,⟨k,h4⟩,hm⟩
 .refine⟨-1,?_,?_⟩
  .simp[hx,hl]
  .exact⟨fun h=>by omega,fun h=>absurd h hno⟩
 .refine⟨k,?_,?_⟩
  .simp[hx,h4]
  .exact⟨fun _=>hm,fun _=>by omega⟩
def I69(c:Ct)(b:Txt)(n:Nat)(st:St):Prop:=st.h=[⟨0,.box c.cells⟩]/\st.s.length=12/\qai st.s 1=.str (qgr b n)/\qai st.s 2=.bptr 0 0
def Q69(c:Ct)(K:List Txt)(b:Txt)(r:R):Prop:=r.x=.exit 0/\r.st.h=[⟨0,.box c.cells⟩]/\r.st.s.length=12/\qai r.st.s 1=.str (qfp K b)
theorem zzj{c:Ct}{A:Nat}(hM:Mid c A)(K:List Txt)(hK:qax c A (qac c A)=K)(b:Txt)(hb:b.length<=100)(st:St)(h0:I69 c b 0 st):∃r,ev pg (.code (.going 1 L188_0) st)=some r/\Q69 c K b r:=by
 have hKl:K.length<=172:=by
  rw[<-hK,qwj]
  obtain⟨_,g1,g2,g3,g4⟩:=hM
  unfold qac
  omega
 refine qau (I69 c b) (qua K b) (Q69 c K b) h0 ?_ ?_
 .rintro n ⟨s,hh⟩ hn ⟨rfl,hl,e1,e2⟩
  simp only at hl e1 e2
  obtain⟨r,h98,hr⟩:=ev236 hM (qgr b n)
  rw[hK]at hr
  have h0r:0<=r:=hr.2 (q6w K b n hn)
  have hlen:(qgr b n).length+1<=140737488355328:=by
   have h1:=q1a K b
   rw[jF,kD]
   omega
  have hsu:=q0i b n
  unfold I69
  rw[hsu]
  generalize qgr b n=T at *
  rw[qad hl]
  simp[L188_0,List.range,List.range.loop,e1,e2,h98,h0r,hlen]
 .rintro⟨s,hh⟩ ⟨rfl,hl,e1,e2⟩
  simp only at hl e1 e2
  obtain⟨r,h98,hr⟩:=ev236 hM (qgr b (qua K b))
  rw[hK]at hr
  have h0r:¬0<=r:=fun h=>q9i K b (hr.1 h)
  unfold Q69 qfp
  generalize qgr b (qua K b)=T at *
  rw[qad hl]
  simp[L188_0,List.range,List.range.loop,e1,e2,h98,h0r]
theorem ev188{c:Ct}{A:Nat}(hM:Mid c A)(K:List Txt)(hK:qax c A (qac c A)=K)(b:Txt)(hb:b.length<=100):ev pg (.call (.fn 188 [] []) [c.v,.str b] [])=some { v:=.str (qfp K b),st:=⟨[],[]⟩ }:=by
 have hloop:=zzj hM K hK b hb
 have hI:∀st:St,(st.h=[⟨0,.box c.cells⟩]/\st.s.length=12/\qai st.s 1=.str b/\qai st.s 2=.bptr 0 0)->I69 c b 0 st:=fun st h=>⟨h.1,h.2.1,by rw[h.2.2.1];simp,h.2.2.2⟩
 unfold Q69 at hloop
 generalize qfp K b=F at *
 rw[qaa,pg188]
 simp[ir188,qah]
 generalize hr:ev pg (.code (.going _ L188_0) _)=o
 obtain⟨r,rfl,hx,hh,hl,h1⟩:∃r,o=some r/\_:=by
  rw[<-hr]
  exact hloop _ (hI _ ⟨by simp,by simp,by simp,by simp⟩)
 simp[hx,hl,h1]
end Go.Proofs.YtbepbclaoohngaaGreat
