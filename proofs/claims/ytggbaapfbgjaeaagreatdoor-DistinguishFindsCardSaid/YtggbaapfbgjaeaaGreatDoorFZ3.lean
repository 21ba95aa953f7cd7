/- Names that. -/
import Derived.Test.YtggbaapfbgjaeaaGreatDoorFSa1
import Derived.Test.YtggbaapfbgjaeaaGreatDoorFCq3
set_option linter.all false
namespace Go.Proofs.YtggbaapfbgjaeaaGreatDoor
open Go Go.Am Go.Proofs
set_option maxRecDepth 100000
def Ste.few(s:Ste):Bool:=decide (s.ends.length<=40)&&decide (s.valves.length<=40)&&decide (s.inputs.length<=200)&&decide (s.values.length<=200)&&decide (s.timers.length<=200)
def qjb(a b:Ste):Bool:=decide (a.ends=b.ends)&&(decide (a.valves=b.valves)&&(decide (a.inputs=b.inputs)&&(decide (a.values=b.values)&&decide (a.timers=b.timers))))
theorem qhv{a b:Ste}:qjb a b=true<->a=b:=by cases a;cases b;simp[qjb]
structure Ste.small(s:Ste):Prop where
 e:s.ends.length<=4096
 w:s.valves.length<=4096
 i:s.inputs.length<=4096
 v:s.values.length<=4096
 t:s.timers.length<=4096
theorem ev223(a b:Ste)(ha:a.small):ev pg (.call (fnq 223) [a.v,b.v] [])=some (rvq (.bool (qjb a b))):=by
 have h1:=ev243 a.ends b.ends ha.e;have h2:=ev244 a.valves b.valves ha.w;have h3:=ev244 a.inputs b.inputs ha.i;have h4:=ev244 a.values b.values ha.v;have h5:=ev243 a.timers b.timers ha.t;rw[qaa,pg223.1];unfold qjb;generalize decide (a.ends=b.ends)=b1 at *;generalize decide (a.valves=b.valves)=b2 at *;generalize decide (a.inputs=b.inputs)=b3 at *;generalize decide (a.values=b.values)=b4 at *;cases b1 with
 | false=>simp[ir223,h1]
 | true=>cases b2 with
  | false=>simp[ir223,h1,h2]
  | true=>cases b3 with
   | false=>simp[ir223,h1,h2,h3]
   | true=>cases b4 with
    | false=>simp[ir223,h1,h2,h3,h4]
    | true=>simp[ir223,h1,h2,h3,h4,h5]
def tmB(kind:Int)(v:Bool)(t:Int):Bool:=(!decide (kind=2)&&decide (t≠0))||(decide (kind=2)&&(v != (t==2)))
def tmF(c:Ct)(s:Ste)(k:Nat):Bool:=tmB ((c.signals[k]?).map Sg.kind |>.getD 0) ((s.values[k]?).getD false) ((s.timers[k]?).getD 0)
def zrp(p:Nat->Bool)(n:Nat):Bool:=(List.range n).any p
theorem q7j{p:Nat->Bool}{n k:Nat}(hk:k<n)(h:p k=true):zrp p n=true:=by unfold zrp;rw[List.any_eq_true];exact⟨k,List.mem_range.2 hk,h⟩
theorem q1q{p:Nat->Bool}{n:Nat}(h:∀j,j<n->p j=false):zrp p n=false:=by unfold zrp;rw[List.any_eq_false];intro k hk;rw[h k (List.mem_range.1 hk)];simp
structure Shp(c:Ct)(s:Ste):Prop where
 e:(s.ends.length:Int)=c.act
 w:(s.valves.length:Int)=c.act
 i:s.inputs.length=c.inputs.length
 v:s.values.length=c.signals.length
 t:s.timers.length=c.signals.length
instance(c:Ct)(s:Ste):Decidable (Shp c s) :=
 if h:(s.ends.length:Int)=c.act/\(s.valves.length:Int)=c.act/\s.inputs.length=c.inputs.length/\s.values.length=c.signals.length/\s.timers.length=c.signals.length then .isTrue ⟨h.1,h.2.1,h.2.2.1,h.2.2.2.1,h.2.2.2.2⟩
 else .isFalse fun a=>h ⟨a.e,a.w,a.i,a.v,a.t⟩
def zla(c:Ct)(s:Ste):Int:=if Shp c s then(if s.ends.any (qfz 4)=true\/s.timers.any (qfz 3)=true then 1 else if zrp (tmF c s) s.timers.length=true then 14 else 0)else 8
abbrev h49(c:Ct)(s:Ste):H:=[⟨0,.box c.cells⟩,⟨0,.box s.cells⟩]
theorem zvf{c:Ct}{s:Ste}(h:¬Shp c s):((s.ends.length:Int) != c.act||((s.valves.length:Int) != c.act||((s.inputs.length:Int) != (c.inputs.length:Int)||((s.values.length:Int) != (c.signals.length:Int)||((s.timers.length:Int) != (c.signals.length:Int))))))=true:=by
 simp only[Bool.or_eq_true,bne_iff_ne];by_cases h1:(s.ends.length:Int)=c.act
 .by_cases h2:(s.valves.length:Int)=c.act
  .by_cases h3:(s.inputs.length:Int)=c.inputs.length
   .by_cases h4:(s.values.length:Int)=c.signals.length
    .by_cases h5:(s.timers.length:Int)=c.signals.length
     .exact absurd ⟨h1,h2,by omega,by omega,by omega⟩ h
     .simp[h5]
    .simp[h4]
   .simp[h3]
  .simp[h2]
 .simp[h1]
theorem ev235{h:H}{i:Nat}{m:Int}(hi:h[i]?=some ⟨0,.box [num m]⟩)(hcl:calm h)(n:Int):ev pg (.call (.fn 235 [] [.bptr i 0]) [num n] h)=some { v:=.bool (qfz m n),st:=⟨[],h⟩ }:=by
 have hck:=qfu hcl;rw[qaa,pg235.1];unfold qfz;by_cases h1:n<0
 .simp[-qde,ir235,h1,hck]
 .simp[-qde,ir235,h1,hi,hck]
theorem ev234(n:Int)(h:H):ev pg (.call (fnq 234) [num n] h)=some { v:=.fn 235 [] [.bptr h.length 0],st:=⟨[],h++[⟨0,.box [num n]⟩]⟩ }:=by rw[qaa,pg234.1];simp[ir234]
abbrev zyk(c:Ct)(s:Ste):H:=[⟨0,.box c.cells⟩,⟨0,.box s.cells⟩,⟨0,.box [num 4]⟩,⟨0,.box [num 3]⟩]
def T79(c:Ct)(s:Ste)(k:Nat):Tm:=[none,none,bN 0,bN 1]++zN 59++[some (qcr s.timers),some (num s.timers.length),nN k]++zN 31
def z1d:Tm:=[none,none,none,none,nN 14]++zN 92
theorem zza(c:Ct)(s:Ste)(hs:s.small)(hS:Shp c s){st:St}(h0:At (T79 c s 0) (zyk c s) st):∃r,ev pg (.code (.going 4 L209_0) st)=some r/\qph s.timers.length (tmF c s) (fun _=>qar .ret z1d (zyk c s)) (qar (.exit 0) (T79 c s s.timers.length) (zyk c s)) r:=by
 have hse:=hs.t;have hv:=hS.v;have ht:=hS.t;refine qdw _ _ (T79 c s) (zyk c s) _ _ ?_ ?_ ?_ h0
 .intro k f hf hk hp;have hk':(k:Int)<s.timers.length:=by omega
  have hkv:k<s.values.length:=by omega
  have hkc:k<c.signals.length:=by omega
  have wk:=qbc k;have hp':tmB c.signals[k].kind s.values[k] s.timers[k]=false:=by simpa[tmF,hk,hkv,hkc]using hp
  simp[tmB]at hp';by_cases h2:c.signals[k].kind=2
  .have hq:=hp'.2 h2;simp[T79,L209_0,hk,hk',hkv,hkc,h2,hq,wk,hf.ne]
  .have h0:=hp'.1 h2;have h2b:(c.signals[k].kind==2)=false:=by simpa using h2
   simp[T79,L209_0,hk,hk',hkv,hkc,h2b,h0,wk,hf.ne]
 .intro k f hf hk hp;have hk':(k:Int)<s.timers.length:=by omega
  have hkv:k<s.values.length:=by omega
  have hkc:k<c.signals.length:=by omega
  have hp':tmB c.signals[k].kind s.values[k] s.timers[k]=true:=by simpa[tmF,hk,hkv,hkc]using hp
  simp[tmB]at hp';by_cases h2:c.signals[k].kind=2
  .have hq:¬s.values[k]=(s.timers[k]==2):=by simpa[h2]using hp'
   simp[T79,z1d,L209_0,hk,hk',hkv,hkc,h2,hq,hf.ne]
  .have h0:(s.timers[k] != 0)=true:=by simpa[h2]using hp'
   have h2b:(c.signals[k].kind==2)=false:=by simpa using h2
   simp[T79,z1d,L209_0,hk,hk',hkv,hkc,h2b,h0,hf.ne]
 .intro f hf;simp[T79,L209_0,hf.ne]
theorem ev209(c:Ct)(s:Ste)(hs:s.small):ev pg (.call (fnq 209) [c.v,s.v] [])=some (rvq (num (zla c s))):=by
 rw[qaa,pg209.1];by_cases hS:Shp c s
 .have hl:=@zza c s hs hS;have e1:((s.ends.length:Int) != c.act)=false:=by simp[hS.e]
  have e2:((s.valves.length:Int) != c.act)=false:=by simp[hS.w]
  have e3:((s.inputs.length:Int) != (c.inputs.length:Int))=false:=by simp[hS.i]
  have e4:((s.values.length:Int) != (c.signals.length:Int))=false:=by simp[hS.v]
  have e5:((s.timers.length:Int) != (c.signals.length:Int))=false:=by simp[hS.t]
  have m4:=ev234 4 (h49 c s);have m3:=ev234 3 [⟨0,.box c.cells⟩,⟨0,.box s.cells⟩,⟨0,.box [num 4]⟩];have a4:=ev29 (f:=235) (caps:=[.bptr 2 0]) (h:=[⟨0,.box c.cells⟩,⟨0,.box s.cells⟩,⟨0,.box [num 4]⟩]) (l:=s.ends) (p:=qfz 4) hs.e rfl rfl (ev235 (by rfl) (by simp[calm])) (by simp[calm]);have a3:=ev29 (f:=235) (caps:=[.bptr 3 0]) (h:=zyk c s) (l:=s.timers) (p:=qfz 3) hs.t rfl rfl (ev235 (by rfl) (by simp[calm])) (by simp[calm]);unfold zla;rw[if_pos hS];generalize s.ends.any (qfz 4)=b1 at *;generalize s.timers.any (qfz 3)=b2 at *;generalize hB3:zrp (tmF c s) s.timers.length=B3;cases b1 with
  | true=>simp[qab,exT,qag,ir209,e1,e2,e3,e4,e5,m4,a4]
  | false=>cases b2 with
   | true=>simp[qab,exT,qag,ir209,e1,e2,e3,e4,e5,m4,a4,m3,a3]
   | false =>
    simp[qab,exT,qag,ir209,qai,e1,e2,e3,e4,e5,m4,a4,m3,a3];generalize hr:ev pg (.code (.going _ L209_0) _)=o;obtain⟨r,rfl,hQ⟩:∃r,o=some r/\_:=by rw[<-hr];exact hl (by simp[T79])
    rcases hQ with⟨k,hk,hp,-,f,hf,rfl⟩ | ⟨hp,f,hf,rfl⟩
    .obtain rfl:B3=true:=by rw[<-hB3];exact q7j hk hp
     simp[z1d]
    .obtain rfl:B3=false:=by rw[<-hB3];exact q1q hp
     simp[T79]
 .have hn:=zvf hS;unfold zla;rw[if_neg hS];generalize e1:((s.ends.length:Int) != c.act)=b1 at hn;generalize e2:((s.valves.length:Int) != c.act)=b2 at hn;generalize e3:((s.inputs.length:Int) != (c.inputs.length:Int))=b3 at hn;generalize e4:((s.values.length:Int) != (c.signals.length:Int))=b4 at hn;generalize e5:((s.timers.length:Int) != (c.signals.length:Int))=b5 at hn;cases b1 with
  | true=>simp[ir209,e1]
  | false=>cases b2 with
   | true=>simp[ir209,e1,e2]
   | false=>cases b3 with
    | true=>simp[ir209,e1,e2,e3]
    | false=>cases b4 with
     | true=>simp[ir209,e1,e2,e3,e4]
     | false=>cases b5 with
      | true=>simp[ir209,e1,e2,e3,e4,e5]
      | false=>simp at hn
abbrev stE(c:Ct)(s:Ste):Int:=if c.check=0 then zla c s else c.check
theorem ev179(c:Ct)(s:Ste)(hfew:c.small=true)(hs:s.small):ev pg (.call (fnq 179) [c.v,s.v] [])=some (rvq (num (stE c s))):=by
 have h1:=ev44 c hfew;have h2:=ev209 c s hs;rw[qaa,pg179.1];unfold stE;generalize c.check=e at *;by_cases he:e=0
 .subst he;simp[ir179,h1,h2]
 .simp[ir179,h1,he]
theorem ev176(l:List Bool)(hl:l.length<=4096):ev pg (.call (fnq 176) [qdc l] [])=some { v:=.sl 0 0 1 0 l.length,st:=⟨[],[⟨0,.arr 1 (l.map qfj)⟩]⟩ }:=by
 rw[qaa,pg176.1];cases l with
 | nil=>simp[ir176,qch,qel,qdz]
 | cons x l =>
  have h47:(l.length+1)*1<=140737488355328:=by simp only[List.length_cons]at hl;omega
  have h48:l.length+1<=140737488355328:=by omega
  simp[ir176,h47,h48,qch,qel,qdz]
theorem ev167g(n:Nat)(hn2:n<=100000):ev pg (.call (fnq 167) [.nils,num n] [⟨0,.arr 0 []⟩])=some (if n=0 then { v:=.nils,st:=⟨[],[⟨0,.arr 0 []⟩]⟩ }else { v:=.sl 1 0 1 0 0,st:=⟨[],[⟨0,.arr 0 []⟩,⟨0,.arr 1 []⟩]⟩ }):=by
 have w1:=qam (n:=(n:Int)) (by omega) (by omega);have p1:¬((n:Int)<0):=by omega
 have w0:=qam (n:=0) (by omega) (by omega);have p3:n*8<=140737488355328:=by omega
 have p4:n<=140737488355328:=by omega
 rw[qaa,pg167.1];rcases Nat.eq_zero_or_pos n with rfl | hn
 .simp[ir167,w0,qch,qel,qdz]
 .have hn0:n≠0:=by omega
  rw[if_neg hn0];simp[ir167,w0,w1,p1,hn,p3,p4,qch,qel,qdz]
  try omega
abbrev qks(L:List (List Int))(k:Nat):Nat:=(L.take k).flatten.length
theorem qzz{L:List (List Int)}{k:Nat}(hk:k<L.length):qks L (k+1)=qks L k+L[k].length:=by unfold qks;rw[jK hk,jZ];simp
theorem zau(L:List (List Int))(k:Nat):qks L k<=L.flatten.length:=by
 unfold qks;have:L.flatten=(L.take k).flatten++(L.drop k).flatten:=by rw[<-jZ,List.take_append_drop]
 rw[this,jF];omega
abbrev zis(L:List (List Int)):V:=.imm (L.map fun l=>[qcr l])
def zll(L:List (List Int))(k:Nat):Tm:=[some (zis L),none,some (.sl 0 0 0 0 0),nN (qks L k)]++zN 5++[some (zis L),nN L.length,nN k]++zN 24
theorem ztx(L:List (List Int))(hL:L.length<=4096)(hN:L.flatten.length<=100000){st:St}(h0:At (zll L 0) [⟨0,.arr 0 []⟩] st):∃r,ev pg (.code (.going 1 L126_0) st)=some r/\qar (.exit 0) (zll L L.length) [⟨0,.arr 0 []⟩] r:=by
 refine qfn L.length (zll L) (fun _=>[⟨0,.arr 0 []⟩]) _ ?_ ?_ h0
 .intro k f hf hk;have hk':(k:Int)<L.length:=by omega
  have wk:=qbc k;have hs:=qzz hk;have hle:=zau L (k+1);have w2:=qam (n:=(qks L k:Int)+(L[k].length:Int)) (by omega) (by omega);have w3:¬(qks L k:Int)+(L[k].length:Int)<0:=by omega
  unfold zll;rw[hs];generalize qks L k=n at *;simp[L126_0,hk,hk',wk,w2,w3,hf.ne]
 .intro f hf;unfold zll;generalize qks L L.length=n at *;simp[L126_0,hf.ne]
def zvy(L:List (List Int))(k:Nat)(a:Nat×Nat):Tm:=[some (zis L),none,some (.sl 0 0 0 0 0),none,none,none,some (.sl 1 a.1 a.2 0 (qks L k))]++zN 18++[some (zis L),nN L.length,nN k]++zN 8
abbrev zwl(X:H)(L:List (List Int))(k:Nat)(a:Nat×Nat):H:=⟨0,.arr 0 []⟩ :: ⟨a.1,.arr a.2 ((L.take k).flatten.map qbk)⟩ :: X
theorem zty(X:H)(hX:X=[]\/X=[⟨0,.arr 0 []⟩])(L:List (List Int))(hL:L.length<=4096)(hN:L.flatten.length<=100000){st:St}(a0:Nat×Nat)(g0:a0.2=1\/(a0.2=0/\(0:Nat)=0))(h0:At (zvy L 0 a0) (zwl X L 0 a0) st):∃r,ev pg (.code (.going (2+X.length) L126_1) st)=some r/\∃a:Nat×Nat,(a.2=1\/(a.2=0/\L.length=0))/\qar (.exit 2) (zvy L L.length a) (zwl X L L.length a) r:=by
 refine qcg L.length (zvy L) (zwl X L) (fun k a=>a.2=1\/(a.2=0/\k=0)) _ ?_ ?_ a0 g0 h0
 .rintro k ⟨g,m⟩ f hf hk hG;have hk':(k:Int)<L.length:=by omega
  have wk:=qbc k;have hs:=qzz hk;have hle:=zau L (k+1);have hfl:(L.take (k+1)).flatten=(L.take k).flatten++L[k]:=by rw[jK hk,jZ];simp
  have hb:(qks L k+L[k].length)*8<=140737488355328:=by omega
  have hb1:qks L k+L[k].length<=140737488355328:=by omega
  have hb2:(L.take k).flatten.length+L[k].length<=140737488355328:=hb1;have hmm:m=1\/m=0:=hG.elim .inl fun h=>.inr h.1;have hlen:(L.take k).flatten.length=qks L k:=rfl;unfold zvy zwl;rw[hs,hfl];generalize qks L k=n at *;generalize (L.take k).flatten=W at *;rcases hX with rfl | rfl<;>rcases hmm with rfl | rfl<;>simp[L126_1,hk,hk',wk,hb,hb1,hb2,hlen,hf.ne]
 .rintro⟨g,m⟩ f hf hG;unfold zvy zwl;generalize qks L L.length=n at *;generalize (L.take L.length).flatten=W at *;rcases hX with rfl | rfl<;>simp[L126_1,hf.ne]<;>exact⟨g,hG.elim (fun h=>.inl ⟨rfl,h⟩) fun h=>.inr ⟨⟨h.1,List.length_eq_zero_iff.1 h.2⟩,rfl⟩⟩
theorem ev126c(L:List (List Int))(hL:L.length<=4096)(hL0:L≠[])(hN:L.flatten.length<=100000):ev pg (.call (fnq 126) [zis L] [])=some { v:=.sl 0 0 1 0 L.flatten.length,st:=⟨[],[⟨0,.arr 1 (L.flatten.map qbk)⟩]⟩ }:=by
 have hla:=@ztx L hL hN;have hlb:=fun X hX=>@zty X hX L hL hN;have hg:=ev167g L.flatten.length hN;have hn:qks L L.length=L.flatten.length:=by unfold qks;rw[List.take_length]
 have h0:qks L 0=0:=by simp[qks]
 have ha0:∀st:St,At ([some (zis L),none,some (.sl 0 0 0 0 0),some (num 0)]++List.replicate 5 none++[some (zis L),some (num L.length),some (num 0)]++List.replicate 24 none) [⟨0,.arr 0 []⟩] st->At (zll L 0) [⟨0,.arr 0 []⟩] st:=fun st h=>by unfold zll;rw[h0];exact h
 unfold zwl at hlb;simp only[List.take_length,List.take_zero]at hlb;unfold zvy at hlb;simp only[hn,h0]at hlb;have hle:∀f,fill f 0 (zll L L.length)=fill f 0 ([some (zis L),none,some (.sl 0 0 0 0 0),some (num L.flatten.length)]++List.replicate 5 none++[some (zis L),some (num L.length),some (num L.length)]++List.replicate 24 none):=fun f=>by unfold zll;rw[hn]
 have hlen:(L.flatten.map qbk).length=L.flatten.length:=List.length_map ..;generalize L.flatten.map qbk=W at *;generalize L.flatten.length=N at *;rw[qaa,pg126.1];simp[ir126,qai];generalize hr:ev pg (.code (.going _ L126_0) _)=o;obtain⟨r,rfl,f,hf,rfl⟩:∃r,o=some r/\_:=by rw[<-hr];exact hla (ha0 _ (by simp))
 clear hr;rw[hle];by_cases hz:N=0
 .rw[if_pos hz]at hg;simp[hg,hf.ne,qai];generalize hr:ev pg (.code (.going _ L126_1) _)=o;obtain⟨r,rfl,⟨g,m⟩,hm,f,hf,rfl⟩:∃r,o=some r/\_:=by rw[<-hr];exact hlb [⟨0,.arr 0 []⟩] (.inr rfl) (0,0) (.inr ⟨rfl,trivial⟩) (by simp[hf.ne])
  obtain rfl:m=1:=hm.elim id fun h=>absurd (List.length_eq_zero_iff.1 h.2) hL0;simp[qch,qel,qdz,hlen]
 .rw[if_neg hz]at hg;simp[hg,hf.ne,qai];generalize hr:ev pg (.code (.going _ L126_1) _)=o;obtain⟨r,rfl,⟨g,m⟩,hm,f,hf,rfl⟩:∃r,o=some r/\_:=by rw[<-hr];exact hlb [] (.inl rfl) (0,1) (.inl rfl) (by simp[hf.ne])
  obtain rfl:m=1:=hm.elim id fun h=>absurd (List.length_eq_zero_iff.1 h.2) hL0;simp[qch,qel,qdz,hlen]
def I98(c:Ct)(A:Nat)(t:Txt)(k:Nat)(st:St):Prop:=st.h=[⟨0,.box c.cells⟩]/\st.s.length=18/\qah st.s 1=.str t/\qah st.s 2=.bptr 0 0/\qah st.s 5=num k/\∀j,j<k->qbj c A j≠t
def Q98(c:Ct)(A:Nat)(t:Txt)(r:R):Prop:=r.st.s.length=18/\((r.x=.exit 0/\¬t∈qaw c A (qad c A))\/(r.x=.ret/\(∃k:Nat,qah r.st.s 4=num k)/\t∈qaw c A (qad c A)))
theorem zzd{c:Ct}{A:Nat}(hM:Mid c A)(t:Txt)(st:St)(h0:I98 c A t 0 st):∃r,ev pg (.code (.going 1 L158_0) st)=some r/\Q98 c A t r:=by
 have hcN:qad c A<=172:=by obtain⟨_,g1,g2,g3,g4⟩:=hM;unfold qad;omega
 have h67:=ev116 hM;refine qat (I98 c A t) (qad c A) (Q98 c A t) h0 ?_ ?_
 .rintro k ⟨s,hh⟩ hk ⟨rfl,hl,e1,e2,e5,he⟩;simp only at hl e1 e2 e5;have hk':(k:Int)<(qad c A:Nat):=by omega
  have wk:=qbc k;have h99:=ev140 hM k hk;have hmem:qbj c A k=t->t∈qaw c A (qad c A):=fun e=>List.mem_map.2 ⟨k,List.mem_range.2 hk,e⟩;have hnext:qbj c A k≠t->∀j,j<k+1->qbj c A j≠t:=fun e j hj=>by
   by_cases h1:j=k
   .rw[h1];exact e
   .exact he j (by omega)
  unfold Q98;generalize qaw c A (qad c A)=K at *;generalize qad c A=N at *;by_cases hb:qbj c A k=t
  .have n1:(qbj c A k==t)=true:=by simpa using hb
   have hm:=hmem hb;rw[qac hl];simp[L158_0,List.range,List.range.loop,e1,e2,e5,h67,h99,hk',n1];exact⟨⟨k,rfl⟩,hm⟩
  .have n1:(qbj c A k==t)=false:=by simpa using hb
   have hm:=hnext hb;rw[qac hl];simp[L158_0,I98,List.range,List.range.loop,e1,e2,e5,h67,h99,hk',n1,wk];exact hm
 .rintro⟨s,hh⟩ ⟨rfl,hl,e1,e2,e5,he⟩;simp only at hl e1 e2 e5;have hno:¬t∈qaw c A (qad c A):=fun h=>by
   obtain⟨j,hj,e⟩:=List.mem_map.1 h;exact he j (List.mem_range.1 hj) e
  unfold Q98;generalize qaw c A (qad c A)=K at *;generalize qad c A=N at *;rw[qac hl];simp[L158_0,List.range,List.range.loop,e1,e2,e5,h67];exact hno
theorem ev158{c:Ct}{A:Nat}(hM:Mid c A)(t:Txt):∃r:Int,ev pg (.call (fnq 158) [c.v,.str t] [])=some (rvq (num r))/\(0<=r<->t∈qaw c A (qad c A)):=by
 have hloop:=zzd hM t;have hI:∀st:St,(st.h=[⟨0,.box c.cells⟩]/\st.s.length=18/\qah st.s 1=.str t/\qah st.s 2=.bptr 0 0/\qah st.s 5=num 0)->I98 c A t 0 st:=fun st h=>⟨h.1,h.2.1,h.2.2.1,h.2.2.2.1,h.2.2.2.2,fun j hj=>by omega⟩
 unfold Q98 at hloop;generalize qaw c A (qad c A)=K at *;rw[qaa,pg158.1];simp[ir158,qai];generalize hr:ev pg (.code (.going _ L158_0) _)=o;obtain⟨r,rfl,hl,hQ⟩:∃r,o=some r/\_:=by rw[<-hr];exact hloop _ (hI _ ⟨by simp,by simp,by simp,by simp,by simp⟩)
 rcases hQ with⟨hx,hno⟩ | ⟨hx,⟨k,h4⟩,hm⟩
 .refine⟨-1,?_,?_⟩
  .simp[hx,hl]
  .exact⟨fun h=>by omega,fun h=>absurd h hno⟩
 .refine⟨k,?_,?_⟩
  .simp[hx,h4]
  .exact⟨fun _=>hm,fun _=>by omega⟩
def I69(c:Ct)(b:Txt)(n:Nat)(st:St):Prop:=st.h=[⟨0,.box c.cells⟩]/\st.s.length=12/\qah st.s 1=.str (qgu b n)/\qah st.s 2=.bptr 0 0
def Q69(c:Ct)(K:List Txt)(b:Txt)(r:R):Prop:=r.x=.exit 0/\r.st.h=[⟨0,.box c.cells⟩]/\r.st.s.length=12/\qah r.st.s 1=.str (qfv K b)
theorem zyy{c:Ct}{A:Nat}(hM:Mid c A)(K:List Txt)(hK:qaw c A (qad c A)=K)(b:Txt)(hb:b.length<=100)(st:St)(h0:I69 c b 0 st):∃r,ev pg (.code (.going 1 L118_0) st)=some r/\Q69 c K b r:=by
 have hKl:K.length<=172:=by rw[<-hK,qxk];obtain⟨_,g1,g2,g3,g4⟩:=hM;unfold qad;omega
 refine qat (I69 c b) (quw K b) (Q69 c K b) h0 ?_ ?_
 .rintro n ⟨s,hh⟩ hn ⟨rfl,hl,e1,e2⟩;simp only at hl e1 e2;obtain⟨r,h98,hr⟩:=ev158 hM (qgu b n);rw[hK]at hr;have h0r:0<=r:=hr.2 (q7w K b n hn);have hlen:(qgu b n).length+1<=140737488355328:=by
   have h1:=q2d K b;rw[jF,kD];omega
  have hsu:=q1i b n;unfold I69;rw[hsu];generalize qgu b n=T at *;rw[qac hl];simp[L118_0,List.range,List.range.loop,e1,e2,h98,h0r,hlen]
 .rintro⟨s,hh⟩ ⟨rfl,hl,e1,e2⟩;simp only at hl e1 e2;obtain⟨r,h98,hr⟩:=ev158 hM (qgu b (quw K b));rw[hK]at hr;have h0r:¬0<=r:=fun h=>zam K b (hr.1 h);unfold Q69 qfv;generalize qgu b (quw K b)=T at *;rw[qac hl];simp[L118_0,List.range,List.range.loop,e1,e2,h98,h0r]
theorem ev118{c:Ct}{A:Nat}(hM:Mid c A)(K:List Txt)(hK:qaw c A (qad c A)=K)(b:Txt)(hb:b.length<=100):ev pg (.call (fnq 118) [c.v,.str b] [])=some (rvq (.str (qfv K b))):=by
 have hloop:=zyy hM K hK b hb;have hI:∀st:St,(st.h=[⟨0,.box c.cells⟩]/\st.s.length=12/\qah st.s 1=.str b/\qah st.s 2=.bptr 0 0)->I69 c b 0 st:=fun st h=>⟨h.1,h.2.1,by rw[h.2.2.1];simp,h.2.2.2⟩
 unfold Q69 at hloop;generalize qfv K b=F at *;rw[qaa,pg118.1];simp[ir118,qai];generalize hr:ev pg (.code (.going _ L118_0) _)=o;obtain⟨r,rfl,hx,hh,hl,h1⟩:∃r,o=some r/\_:=by rw[<-hr];exact hloop _ (hI _ ⟨by simp,by simp,by simp,by simp⟩)
 simp[hx,hl,h1]
end Go.Proofs.YtggbaapfbgjaeaaGreatDoor
