/- States: few, equal, right, by the reference. States: right, by the program. Clones, and lists one behind the other. -/
import Derived.Test.YtddeacahiilikaaGreatEv1
import Derived.Test.YtddeacahiilikaaGreatCq3
set_option linter.all false
namespace Go.Proofs.YtddeacahiilikaaGreat
open Go Go.Am Go.Proofs
set_option maxRecDepth 100000
def Ste.few(s:Ste):Bool:=decide (s.ends.length<=40)&&decide (s.valves.length<=40)&&decide (s.inputs.length<=200)&&decide (s.values.length<=200)&&decide (s.timers.length<=200)
def qln(a b:Ste):Bool:=decide (a.ends=b.ends)&&(decide (a.valves=b.valves)&&(decide (a.inputs=b.inputs)&&(decide (a.values=b.values)&&decide (a.timers=b.timers))))
theorem qik{a b:Ste}:qln a b=true<->a=b:=by
 cases a;cases b
 simp[qln]
structure Ste.small(s:Ste):Prop where
 e:s.ends.length<=4096
 w:s.valves.length<=4096
 i:s.inputs.length<=4096
 v:s.values.length<=4096
 t:s.timers.length<=4096
def tmB(kind:Int)(v:Bool)(t:Int):Bool:=(!decide (kind=2)&&decide (t≠0))||(decide (kind=2)&&(v != (t==2)))
def tmF(c:Ct)(s:Ste)(k:Nat):Bool:=tmB ((c.signals[k]?).map Sg.kind |>.getD 0) ((s.values[k]?).getD false) ((s.timers[k]?).getD 0)
def zsp(p:Nat->Bool)(n:Nat):Bool:=(List.range n).any p
theorem q6s{p:Nat->Bool}{n k:Nat}(hk:k<n)(h:p k=true):zsp p n=true:=by
 unfold zsp;rw[List.any_eq_true];exact⟨k,List.mem_range.2 hk,h⟩
theorem qzo{p:Nat->Bool}{n:Nat}(h:∀j,j<n->p j=false):zsp p n=false:=by
 unfold zsp;rw[List.any_eq_false];intro k hk;rw[h k (List.mem_range.1 hk)];simp
structure Shp(c:Ct)(s:Ste):Prop where
 e:(s.ends.length:Int)=c.act
 w:(s.valves.length:Int)=c.act
 i:s.inputs.length=c.inputs.length
 v:s.values.length=c.signals.length
 t:s.timers.length=c.signals.length
instance(c:Ct)(s:Ste):Decidable (Shp c s) :=
 if h:(s.ends.length:Int)=c.act/\(s.valves.length:Int)=c.act/\s.inputs.length=c.inputs.length/\s.values.length=c.signals.length/\s.timers.length=c.signals.length then .isTrue ⟨h.1,h.2.1,h.2.2.1,h.2.2.2.1,h.2.2.2.2⟩
 else .isFalse fun a=>h ⟨a.e,a.w,a.i,a.v,a.t⟩
def zjr(c:Ct)(s:Ste):Int:=if Shp c s then(if s.ends.any (qfj 4)=true\/s.timers.any (qfj 3)=true then 1 else if zsp (tmF c s) s.timers.length=true then 14 else 0)else 8
abbrev h49(c:Ct)(s:Ste):H:=[⟨0,.box c.cells⟩,⟨0,.box s.cells⟩]
theorem zqq{c:Ct}{s:Ste}(h:¬Shp c s):((s.ends.length:Int) != c.act||((s.valves.length:Int) != c.act||((s.inputs.length:Int) != (c.inputs.length:Int)||((s.values.length:Int) != (c.signals.length:Int)||((s.timers.length:Int) != (c.signals.length:Int))))))=true:=by
 simp only[Bool.or_eq_true,bne_iff_ne]
 by_cases h1:(s.ends.length:Int)=c.act
 .by_cases h2:(s.valves.length:Int)=c.act
  .by_cases h3:(s.inputs.length:Int)=c.inputs.length
   .by_cases h4:(s.values.length:Int)=c.signals.length
    .by_cases h5:(s.timers.length:Int)=c.signals.length
     .exact absurd ⟨h1,h2,by omega,by omega,by omega⟩ h
     .simp[h5]
    .simp[h4]
   .simp[h3]
  .simp[h2]
 .simp[h1]
theorem ev238{h:H}{i:Nat}{m:Int}(hi:h[i]?=some ⟨0,.box [num m]⟩)(hcl:qce h)(n:Int):ev pg (.call (.fn 238 [] [.bptr i 0]) [num n] h)=some { v:=.bool (qfj m n),st:=⟨[],h⟩ }:=by
 have hck:=qdz hcl
 rw[qac,pg238]
 unfold qfj
 by_cases h1:n<0
 .simp[-qap,ir238,h1,hck]
 .simp[-qap,ir238,h1,hi,hck]
theorem ev237(n:Int)(h:H):ev pg (.call (.fn 237 [] []) [num n] h)=some { v:=.fn 238 [] [.bptr h.length 0],st:=⟨[],h++[⟨0,.box [num n]⟩]⟩ }:=by
 rw[qac,pg237]
 simp[ir237]
abbrev z4j(c:Ct)(s:Ste):H:=[⟨0,.box c.cells⟩,⟨0,.box s.cells⟩,⟨0,.box [num 4]⟩,⟨0,.box [num 3]⟩]
def T79(c:Ct)(s:Ste)(k:Nat):Tm:=[none,none,some (.bptr 0 0),some (.bptr 1 0)]++List.replicate 59 none++[some (qcl s.timers),some (num s.timers.length),some (num k)]++List.replicate 31 none
def jam:Tm:=[none,none,none,none,some (num 14)]++List.replicate 92 none
theorem z2a(c:Ct)(s:Ste)(hs:s.small)(hS:Shp c s){st:St}(h0:At (T79 c s 0) (z4j c s) st):∃r,ev pg (.code (.going 4 L194_0) st)=some r/\qlx s.timers.length (tmF c s) (fun _=>qam .ret jam (z4j c s)) (qam (.exit 0) (T79 c s s.timers.length) (z4j c s)) r:=by
 have hse:=hs.t
 have hv:=hS.v
 have ht:=hS.t
 refine qdn _ _ (T79 c s) (z4j c s) _ _ ?_ ?_ ?_ h0
 .intro k f hf hk hp
  have hk':(k:Int)<s.timers.length:=by omega
  have hkv:k<s.values.length:=by omega
  have hkc:k<c.signals.length:=by omega
  have wk:=qab (n:=(k:Int)+1) (by omega) (by omega)
  have hp':tmB c.signals[k].kind s.values[k] s.timers[k]=false:=by simpa[tmF,hk,hkv,hkc]using hp
  simp[tmB]at hp'
  by_cases h2:c.signals[k].kind=2
  .have hq:=hp'.2 h2
   simp[T79,L194_0,hk,hk',hkv,hkc,h2,hq,wk,hf.ne]
  .have h0:=hp'.1 h2
   have h2b:(c.signals[k].kind==2)=false:=by simpa using h2
   simp[T79,L194_0,hk,hk',hkv,hkc,h2b,h0,wk,hf.ne]
 .intro k f hf hk hp
  have hk':(k:Int)<s.timers.length:=by omega
  have hkv:k<s.values.length:=by omega
  have hkc:k<c.signals.length:=by omega
  have hp':tmB c.signals[k].kind s.values[k] s.timers[k]=true:=by simpa[tmF,hk,hkv,hkc]using hp
  simp[tmB]at hp'
  by_cases h2:c.signals[k].kind=2
  .have hq:¬s.values[k]=(s.timers[k]==2):=by simpa[h2]using hp'
   simp[T79,jam,L194_0,hk,hk',hkv,hkc,h2,hq,hf.ne]
  .have h0:(s.timers[k] != 0)=true:=by simpa[h2]using hp'
   have h2b:(c.signals[k].kind==2)=false:=by simpa using h2
   simp[T79,jam,L194_0,hk,hk',hkv,hkc,h2b,h0,hf.ne]
 .intro f hf
  simp[T79,L194_0,hf.ne]
theorem ev194(c:Ct)(s:Ste)(hs:s.small):ev pg (.call (.fn 194 [] []) [c.v,s.v] [])=some { v:=num (zjr c s),st:=⟨[],[]⟩ }:=by
 rw[qac,pg194]
 by_cases hS:Shp c s
 .have hl:=@z2a c s hs hS
  have e1:((s.ends.length:Int) != c.act)=false:=by simp[hS.e]
  have e2:((s.valves.length:Int) != c.act)=false:=by simp[hS.w]
  have e3:((s.inputs.length:Int) != (c.inputs.length:Int))=false:=by simp[hS.i]
  have e4:((s.values.length:Int) != (c.signals.length:Int))=false:=by simp[hS.v]
  have e5:((s.timers.length:Int) != (c.signals.length:Int))=false:=by simp[hS.t]
  have m4:=ev237 4 (h49 c s)
  have m3:=ev237 3 [⟨0,.box c.cells⟩,⟨0,.box s.cells⟩,⟨0,.box [num 4]⟩]
  have a4:=ev188 (f:=238) (caps:=[.bptr 2 0]) (h:=[⟨0,.box c.cells⟩,⟨0,.box s.cells⟩,⟨0,.box [num 4]⟩]) (l:=s.ends) (p:=qfj 4) hs.e rfl rfl (ev238 (by rfl) (by simp[qce])) (by simp[qce])
  have a3:=ev188 (f:=238) (caps:=[.bptr 3 0]) (h:=z4j c s) (l:=s.timers) (p:=qfj 3) hs.t rfl rfl (ev238 (by rfl) (by simp[qce])) (by simp[qce])
  unfold zjr
  rw[if_pos hS]
  generalize s.ends.any (qfj 4)=b1 at *
  generalize s.timers.any (qfj 3)=b2 at *
  generalize hB3:zsp (tmF c s) s.timers.length=B3
  cases b1 with
  | true=>simp[qaa,exT,qaf,ir194,e1,e2,e3,e4,e5,m4,a4]
  | false=>cases b2 with
   | true=>simp[qaa,exT,qaf,ir194,e1,e2,e3,e4,e5,m4,a4,m3,a3]
   | false =>
    simp[qaa,exT,qaf,ir194,qag,e1,e2,e3,e4,e5,m4,a4,m3,a3]
    generalize hr:ev pg (.code (.going _ L194_0) _)=o
    obtain⟨r,rfl,hQ⟩:∃r,o=some r/\_:=by rw[<-hr];exact hl (by simp[T79])
    rcases hQ with⟨k,hk,hp,-,f,hf,rfl⟩ | ⟨hp,f,hf,rfl⟩
    .obtain rfl:B3=true:=by rw[<-hB3];exact q6s hk hp
     simp[jam]
    .obtain rfl:B3=false:=by rw[<-hB3];exact qzo hp
     simp[T79]
 .have hn:=zqq hS
  unfold zjr
  rw[if_neg hS]
  generalize e1:((s.ends.length:Int) != c.act)=b1 at hn
  generalize e2:((s.valves.length:Int) != c.act)=b2 at hn
  generalize e3:((s.inputs.length:Int) != (c.inputs.length:Int))=b3 at hn
  generalize e4:((s.values.length:Int) != (c.signals.length:Int))=b4 at hn
  generalize e5:((s.timers.length:Int) != (c.signals.length:Int))=b5 at hn
  cases b1 with
  | true=>simp[ir194,e1]
  | false=>cases b2 with
   | true=>simp[ir194,e1,e2]
   | false=>cases b3 with
    | true=>simp[ir194,e1,e2,e3]
    | false=>cases b4 with
     | true=>simp[ir194,e1,e2,e3,e4]
     | false=>cases b5 with
      | true=>simp[ir194,e1,e2,e3,e4,e5]
      | false=>simp at hn
abbrev stE(c:Ct)(s:Ste):Int:=if c.check=0 then zjr c s else c.check
theorem ev111(c:Ct)(s:Ste)(hfew:c.small=true)(hs:s.small):ev pg (.call (.fn 111 [] []) [c.v,s.v] [])=some { v:=num (stE c s),st:=⟨[],[]⟩ }:=by
 have h1:=ev43 c hfew
 have h2:=ev194 c s hs
 rw[qac,pg111]
 unfold stE
 generalize c.check=e at *
 by_cases he:e=0
 .subst he
  simp[ir111,h1,h2]
 .simp[ir111,h1,he]
theorem ev190(l:List Bool)(hl:l.length<=4096):ev pg (.call (.fn 190 [] []) [qfd l] [])=some { v:=.sl 0 0 1 0 l.length,st:=⟨[],[⟨0,.arr 1 (l.map qht)⟩]⟩ }:=by
 rw[qac,pg190]
 cases l with
 | nil=>simp[ir190,qct,qel,qek]
 | cons x l =>
  have h47:(l.length+1)*1<=140737488355328:=by
   simp only[List.length_cons]at hl
   omega
  have h48:l.length+1<=140737488355328:=by omega
  simp[ir190,h47,h48,qct,qel,qek]
theorem ev197g(n:Nat)(hn2:n<=100000):ev pg (.call (.fn 197 [] []) [.nils,num n] [⟨0,.arr 0 []⟩])=some (if n=0 then { v:=.nils,st:=⟨[],[⟨0,.arr 0 []⟩]⟩ }else { v:=.sl 1 0 1 0 0,st:=⟨[],[⟨0,.arr 0 []⟩,⟨0,.arr 1 []⟩]⟩ }):=by
 have w1:=qab (n:=(n:Int)) (by omega) (by omega)
 have p1:¬((n:Int)<0):=by omega
 have w0:=qab (n:=0) (by omega) (by omega)
 have p3:n*8<=140737488355328:=by omega
 have p4:n<=140737488355328:=by omega
 rw[qac,pg197]
 rcases Nat.eq_zero_or_pos n with rfl | hn
 .simp[ir197,w0,qct,qel,qek]
 .have hn0:n≠0:=by omega
  rw[if_neg hn0]
  simp[ir197,w0,w1,p1,hn,p3,p4,qct,qel,qek]
  try omega
abbrev qjt(L:List (List Int))(k:Nat):Nat:=(L.take k).flatten.length
theorem qwt{L:List (List Int)}{k:Nat}(hk:k<L.length):qjt L (k+1)=qjt L k+L[k].length:=by
 unfold qjt
 rw[jK hk,jY]
 simp
theorem q7k(L:List (List Int))(k:Nat):qjt L k<=L.flatten.length:=by
 unfold qjt
 have:L.flatten=(L.take k).flatten++(L.drop k).flatten:=by rw[<-jY,List.take_append_drop]
 rw[this,jF]
 omega
abbrev zgb(L:List (List Int)):V:=.imm (L.map fun l=>[qcl l])
def zlh(L:List (List Int))(k:Nat):Tm:=[some (zgb L),none,some (.sl 0 0 0 0 0),some (num (qjt L k))]++List.replicate 5 none++[some (zgb L),some (num L.length),some (num k)]++List.replicate 24 none
theorem zso(L:List (List Int))(hL:L.length<=4096)(hN:L.flatten.length<=100000){st:St}(h0:At (zlh L 0) [⟨0,.arr 0 []⟩] st):∃r,ev pg (.code (.going 1 L120_0) st)=some r/\qam (.exit 0) (zlh L L.length) [⟨0,.arr 0 []⟩] r:=by
 refine qex L.length (zlh L) (fun _=>[⟨0,.arr 0 []⟩]) _ ?_ ?_ h0
 .intro k f hf hk
  have hk':(k:Int)<L.length:=by omega
  have wk:=qab (n:=(k:Int)+1) (by omega) (by omega)
  have hs:=qwt hk
  have hle:=q7k L (k+1)
  have w2:=qab (n:=(qjt L k:Int)+(L[k].length:Int)) (by omega) (by omega)
  have w3:¬(qjt L k:Int)+(L[k].length:Int)<0:=by omega
  unfold zlh
  rw[hs]
  generalize qjt L k=n at *
  simp[L120_0,hk,hk',wk,w2,w3,hf.ne]
 .intro f hf
  unfold zlh
  generalize qjt L L.length=n at *
  simp[L120_0,hf.ne]
def zzx(L:List (List Int))(k:Nat)(a:Nat×Nat):Tm:=[some (zgb L),none,some (.sl 0 0 0 0 0),none,none,none,some (.sl 1 a.1 a.2 0 (qjt L k))]++List.replicate 18 none++[some (zgb L),some (num L.length),some (num k)]++List.replicate 8 none
abbrev z0c(X:H)(L:List (List Int))(k:Nat)(a:Nat×Nat):H:=⟨0,.arr 0 []⟩ :: ⟨a.1,.arr a.2 ((L.take k).flatten.map qcc)⟩ :: X
theorem zwu(X:H)(hX:X=[]\/X=[⟨0,.arr 0 []⟩])(L:List (List Int))(hL:L.length<=4096)(hN:L.flatten.length<=100000){st:St}(a0:Nat×Nat)(g0:a0.2=1\/(a0.2=0/\(0:Nat)=0))(h0:At (zzx L 0 a0) (z0c X L 0 a0) st):∃r,ev pg (.code (.going (2+X.length) L120_1) st)=some r/\∃a:Nat×Nat,(a.2=1\/(a.2=0/\L.length=0))/\qam (.exit 2) (zzx L L.length a) (z0c X L L.length a) r:=by
 refine qcz L.length (zzx L) (z0c X L) (fun k a=>a.2=1\/(a.2=0/\k=0)) _ ?_ ?_ a0 g0 h0
 .rintro k ⟨g,m⟩ f hf hk hG
  have hk':(k:Int)<L.length:=by omega
  have wk:=qab (n:=(k:Int)+1) (by omega) (by omega)
  have hs:=qwt hk
  have hle:=q7k L (k+1)
  have hfl:(L.take (k+1)).flatten=(L.take k).flatten++L[k]:=by rw[jK hk,jY];simp
  have hb:(qjt L k+L[k].length)*8<=140737488355328:=by omega
  have hb1:qjt L k+L[k].length<=140737488355328:=by omega
  have hb2:(L.take k).flatten.length+L[k].length<=140737488355328:=hb1
  have hmm:m=1\/m=0:=hG.elim .inl fun h=>.inr h.1
  have hlen:(L.take k).flatten.length=qjt L k:=rfl
  unfold zzx z0c
  rw[hs,hfl]
  generalize qjt L k=n at *
  generalize (L.take k).flatten=W at *
  rcases hX with rfl | rfl<;>rcases hmm with rfl | rfl<;>simp[L120_1,hk,hk',wk,hb,hb1,hb2,hlen,hf.ne]
 .rintro⟨g,m⟩ f hf hG
  unfold zzx z0c
  generalize qjt L L.length=n at *
  generalize (L.take L.length).flatten=W at *
  rcases hX with rfl | rfl<;>simp[L120_1,hf.ne]<;>exact⟨g,hG.elim (fun h=>.inl ⟨rfl,h⟩) fun h=>.inr ⟨⟨h.1,List.length_eq_zero_iff.1 h.2⟩,rfl⟩⟩
theorem ev120c(L:List (List Int))(hL:L.length<=4096)(hL0:L≠[])(hN:L.flatten.length<=100000):ev pg (.call (.fn 120 [] []) [zgb L] [])=some { v:=.sl 0 0 1 0 L.flatten.length,st:=⟨[],[⟨0,.arr 1 (L.flatten.map qcc)⟩]⟩ }:=by
 have hla:=@zso L hL hN
 have hlb:=fun X hX=>@zwu X hX L hL hN
 have hg:=ev197g L.flatten.length hN
 have hn:qjt L L.length=L.flatten.length:=by unfold qjt;rw[List.take_length]
 have h0:qjt L 0=0:=by simp[qjt]
 have ha0:∀st:St,At ([some (zgb L),none,some (.sl 0 0 0 0 0),some (num 0)]++List.replicate 5 none++[some (zgb L),some (num L.length),some (num 0)]++List.replicate 24 none) [⟨0,.arr 0 []⟩] st->At (zlh L 0) [⟨0,.arr 0 []⟩] st:=fun st h=>by
  unfold zlh
  rw[h0]
  exact h
 unfold z0c at hlb
 simp only[List.take_length,List.take_zero]at hlb
 unfold zzx at hlb
 simp only[hn,h0]at hlb
 have hle:∀f,fill f 0 (zlh L L.length)=fill f 0 ([some (zgb L),none,some (.sl 0 0 0 0 0),some (num L.flatten.length)]++List.replicate 5 none++[some (zgb L),some (num L.length),some (num L.length)]++List.replicate 24 none):=fun f=>by
  unfold zlh
  rw[hn]
 have hlen:(L.flatten.map qcc).length=L.flatten.length:=List.length_map ..
 generalize L.flatten.map qcc=W at *
 generalize L.flatten.length=N at *
 rw[qac,pg120]
 simp[ir120,qag]
 generalize hr:ev pg (.code (.going _ L120_0) _)=o
 obtain⟨r,rfl,f,hf,rfl⟩:∃r,o=some r/\_:=by rw[<-hr];exact hla (ha0 _ (by simp))
 clear hr
 rw[hle]
 by_cases hz:N=0
 .rw[if_pos hz]at hg
  simp[hg,hf.ne,qag]
  generalize hr:ev pg (.code (.going _ L120_1) _)=o
  obtain⟨r,rfl,⟨g,m⟩,hm,f,hf,rfl⟩:∃r,o=some r/\_:=by rw[<-hr];exact hlb [⟨0,.arr 0 []⟩] (.inr rfl) (0,0) (.inr ⟨rfl,trivial⟩) (by simp[hf.ne])
  obtain rfl:m=1:=hm.elim id fun h=>absurd (List.length_eq_zero_iff.1 h.2) hL0
  simp[qct,qel,qek,hlen]
 .rw[if_neg hz]at hg
  simp[hg,hf.ne,qag]
  generalize hr:ev pg (.code (.going _ L120_1) _)=o
  obtain⟨r,rfl,⟨g,m⟩,hm,f,hf,rfl⟩:∃r,o=some r/\_:=by rw[<-hr];exact hlb [] (.inl rfl) (0,1) (.inl rfl) (by simp[hf.ne])
  obtain rfl:m=1:=hm.elim id fun h=>absurd (List.length_eq_zero_iff.1 h.2) hL0
  simp[qct,qel,qek,hlen]
end Go.Proofs.YtddeacahiilikaaGreat
