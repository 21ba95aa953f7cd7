/- Names that are not there yet, by the reference. -/
import Derived.Test.YtbepbclaoohngaaGreatCSa1
set_option linter.all false
namespace Go.Proofs.YtbepbclaoohngaaGreat
open Go Go.Am Go.Proofs
set_option maxRecDepth 100000
theorem ev151(l:List Bool)(hl:l.length<=4096):ev pg (.call (.fn 151 [] []) [qdy l] [])=some { v:=.sl 0 0 1 0 l.length,st:=⟨[],[⟨0,.arr 1 (l.map qfi)⟩]⟩ }:=by
 rw[qaa,pg151]
 cases l with
 | nil=>simp[ir151,qcl,qep,qee]
 | cons x l =>
  have h47:(l.length+1)*1<=140737488355328:=by
   simp only[List.length_cons]at hl
   omega
  have h48:l.length+1<=140737488355328:=by omega
  simp[ir151,h47,h48,qcl,qep,qee]
theorem ev221g(n:Nat)(hn2:n<=100000):ev pg (.call (.fn 221 [] []) [.nils,num n] [⟨0,.arr 0 []⟩])=some (if n=0 then { v:=.nils,st:=⟨[],[⟨0,.arr 0 []⟩]⟩ }else { v:=.sl 1 0 1 0 0,st:=⟨[],[⟨0,.arr 0 []⟩,⟨0,.arr 1 []⟩]⟩ }):=by
 have w1:=qao (n:=(n:Int)) (by omega) (by omega)
 have p1:¬((n:Int)<0):=by omega
 have w0:=qao (n:=0) (by omega) (by omega)
 have p3:n*8<=140737488355328:=by omega
 have p4:n<=140737488355328:=by omega
 rw[qaa,pg221]
 rcases Nat.eq_zero_or_pos n with rfl | hn
 .simp[ir221,w0,qcl,qep,qee]
 .have hn0:n≠0:=by omega
  rw[if_neg hn0]
  simp[ir221,w0,w1,p1,hn,p3,p4,qcl,qep,qee]
  try omega
abbrev qkp(L:List (List Int))(k:Nat):Nat:=(L.take k).flatten.length
theorem qzo{L:List (List Int)}{k:Nat}(hk:k<L.length):qkp L (k+1)=qkp L k+L[k].length:=by
 unfold qkp
 rw[jK hk,jZ]
 simp
theorem zai(L:List (List Int))(k:Nat):qkp L k<=L.flatten.length:=by
 unfold qkp
 have:L.flatten=(L.take k).flatten++(L.drop k).flatten:=by rw[<-jZ,List.take_append_drop]
 rw[this,jF]
 omega
abbrev zku(L:List (List Int)):V:=.imm (L.map fun l=>[qeh l])
def zlb(L:List (List Int))(k:Nat):Tm:=[some (zku L),none,some (.sl 0 0 0 0 0),nN (qkp L k)]++zN 5++[some (zku L),nN L.length,nN k]++zN 24
theorem zuw(L:List (List Int))(hL:L.length<=4096)(hN:L.flatten.length<=100000){st:St}(h0:At (zlb L 0) [⟨0,.arr 0 []⟩] st):∃r,ev pg (.code (.going 1 L155_0) st)=some r/\qas (.exit 0) (zlb L L.length) [⟨0,.arr 0 []⟩] r:=by
 refine qfy L.length (zlb L) (fun _=>[⟨0,.arr 0 []⟩]) _ ?_ ?_ h0
 .intro k f hf hk
  have hk':(k:Int)<L.length:=by omega
  have wk:=qbb (k:=k) (by omega)
  have hs:=qzo hk
  have hle:=zai L (k+1)
  have w2:=qao (n:=(qkp L k:Int)+(L[k].length:Int)) (by omega) (by omega)
  have w3:¬(qkp L k:Int)+(L[k].length:Int)<0:=by omega
  unfold zlb
  rw[hs]
  generalize qkp L k=n at *
  simp[L155_0,hk,hk',wk,w2,w3,hf.ne]
 .intro f hf
  unfold zlb
  generalize qkp L L.length=n at *
  simp[L155_0,hf.ne]
def zxk(L:List (List Int))(k:Nat)(a:Nat×Nat):Tm:=[some (zku L),none,some (.sl 0 0 0 0 0),none,none,none,some (.sl 1 a.1 a.2 0 (qkp L k))]++zN 18++[some (zku L),nN L.length,nN k]++zN 8
abbrev zxr(X:H)(L:List (List Int))(k:Nat)(a:Nat×Nat):H:=⟨0,.arr 0 []⟩ :: ⟨a.1,.arr a.2 ((L.take k).flatten.map qbl)⟩ :: X
theorem zux(X:H)(hX:X=[]\/X=[⟨0,.arr 0 []⟩])(L:List (List Int))(hL:L.length<=4096)(hN:L.flatten.length<=100000){st:St}(a0:Nat×Nat)(g0:a0.2=1\/(a0.2=0/\(0:Nat)=0))(h0:At (zxk L 0 a0) (zxr X L 0 a0) st):∃r,ev pg (.code (.going (2+X.length) L155_1) st)=some r/\∃a:Nat×Nat,(a.2=1\/(a.2=0/\L.length=0))/\qas (.exit 2) (zxk L L.length a) (zxr X L L.length a) r:=by
 refine qct L.length (zxk L) (zxr X L) (fun k a=>a.2=1\/(a.2=0/\k=0)) _ ?_ ?_ a0 g0 h0
 .rintro k ⟨g,m⟩ f hf hk hG
  have hk':(k:Int)<L.length:=by omega
  have wk:=qbb (k:=k) (by omega)
  have hs:=qzo hk
  have hle:=zai L (k+1)
  have hfl:(L.take (k+1)).flatten=(L.take k).flatten++L[k]:=by rw[jK hk,jZ];simp
  have hb:(qkp L k+L[k].length)*8<=140737488355328:=by omega
  have hb1:qkp L k+L[k].length<=140737488355328:=by omega
  have hb2:(L.take k).flatten.length+L[k].length<=140737488355328:=hb1
  have hmm:m=1\/m=0:=hG.elim .inl fun h=>.inr h.1
  have hlen:(L.take k).flatten.length=qkp L k:=rfl
  unfold zxk zxr
  rw[hs,hfl]
  generalize qkp L k=n at *
  generalize (L.take k).flatten=W at *
  rcases hX with rfl | rfl<;>rcases hmm with rfl | rfl<;>simp[L155_1,hk,hk',wk,hb,hb1,hb2,hlen,hf.ne]
 .rintro⟨g,m⟩ f hf hG
  unfold zxk zxr
  generalize qkp L L.length=n at *
  generalize (L.take L.length).flatten=W at *
  rcases hX with rfl | rfl<;>simp[L155_1,hf.ne]<;>exact⟨g,hG.elim (fun h=>.inl ⟨rfl,h⟩) fun h=>.inr ⟨⟨h.1,List.length_eq_zero_iff.1 h.2⟩,rfl⟩⟩
theorem ev155c(L:List (List Int))(hL:L.length<=4096)(hL0:L≠[])(hN:L.flatten.length<=100000):ev pg (.call (.fn 155 [] []) [zku L] [])=some { v:=.sl 0 0 1 0 L.flatten.length,st:=⟨[],[⟨0,.arr 1 (L.flatten.map qbl)⟩]⟩ }:=by
 have hla:=@zuw L hL hN
 have hlb:=fun X hX=>@zux X hX L hL hN
 have hg:=ev221g L.flatten.length hN
 have hn:qkp L L.length=L.flatten.length:=by unfold qkp;rw[List.take_length]
 have h0:qkp L 0=0:=by simp[qkp]
 have ha0:∀st:St,At ([some (zku L),none,some (.sl 0 0 0 0 0),some (num 0)]++List.replicate 5 none++[some (zku L),some (num L.length),some (num 0)]++List.replicate 24 none) [⟨0,.arr 0 []⟩] st->At (zlb L 0) [⟨0,.arr 0 []⟩] st:=fun st h=>by
  unfold zlb
  rw[h0]
  exact h
 unfold zxr at hlb
 simp only[List.take_length,List.take_zero]at hlb
 unfold zxk at hlb
 simp only[hn,h0]at hlb
 have hle:∀f,fill f 0 (zlb L L.length)=fill f 0 ([some (zku L),none,some (.sl 0 0 0 0 0),some (num L.flatten.length)]++List.replicate 5 none++[some (zku L),some (num L.length),some (num L.length)]++List.replicate 24 none):=fun f=>by
  unfold zlb
  rw[hn]
 have hlen:(L.flatten.map qbl).length=L.flatten.length:=List.length_map ..
 generalize L.flatten.map qbl=W at *
 generalize L.flatten.length=N at *
 rw[qaa,pg155]
 simp[ir155,qah]
 generalize hr:ev pg (.code (.going _ L155_0) _)=o
 obtain⟨r,rfl,f,hf,rfl⟩:∃r,o=some r/\_:=by rw[<-hr];exact hla (ha0 _ (by simp))
 clear hr
 rw[hle]
 by_cases hz:N=0
 .rw[if_pos hz]at hg
  simp[hg,hf.ne,qah]
  generalize hr:ev pg (.code (.going _ L155_1) _)=o
  obtain⟨r,rfl,⟨g,m⟩,hm,f,hf,rfl⟩:∃r,o=some r/\_:=by rw[<-hr];exact hlb [⟨0,.arr 0 []⟩] (.inr rfl) (0,0) (.inr ⟨rfl,trivial⟩) (by simp[hf.ne])
  obtain rfl:m=1:=hm.elim id fun h=>absurd (List.length_eq_zero_iff.1 h.2) hL0
  simp[qcl,qep,qee,hlen]
 .rw[if_neg hz]at hg
  simp[hg,hf.ne,qah]
  generalize hr:ev pg (.code (.going _ L155_1) _)=o
  obtain⟨r,rfl,⟨g,m⟩,hm,f,hf,rfl⟩:∃r,o=some r/\_:=by rw[<-hr];exact hlb [] (.inl rfl) (0,1) (.inl rfl) (by simp[hf.ne])
  obtain rfl:m=1:=hm.elim id fun h=>absurd (List.length_eq_zero_iff.1 h.2) hL0
  simp[qcl,qep,qee,hlen]
def I98(c:Ct)(A:Nat)(t:Txt)(k:Nat)(st:St):Prop:=st.h=[⟨0,.box c.cells⟩]/\st.s.length=18/\qai st.s 1=.str t/\qai st.s 2=.bptr 0 0/\qai st.s 5=num k/\∀j,j<k->qbk c A j≠t
def Q98(c:Ct)(A:Nat)(t:Txt)(r:R):Prop:=r.st.s.length=18/\((r.x=.exit 0/\¬t∈qax c A (qac c A))\/(r.x=.ret/\(∃k:Nat,qai r.st.s 4=num k)/\t∈qax c A (qac c A)))
theorem z0j{c:Ct}{A:Nat}(hM:Mid c A)(t:Txt)(st:St)(h0:I98 c A t 0 st):∃r,ev pg (.code (.going 1 L236_0) st)=some r/\Q98 c A t r:=by
 have hcN:qac c A<=172:=by
  obtain⟨_,g1,g2,g3,g4⟩:=hM
  unfold qac
  omega
 have h67:=ev186 hM
 refine qau (I98 c A t) (qac c A) (Q98 c A t) h0 ?_ ?_
 .rintro k ⟨s,hh⟩ hk ⟨rfl,hl,e1,e2,e5,he⟩
  simp only at hl e1 e2 e5
  have hk':(k:Int)<(qac c A:Nat):=by omega
  have wk:=qbb (k:=k) (by omega)
  have h99:=ev195 hM k hk
  have hmem:qbk c A k=t->t∈qax c A (qac c A):=fun e=>List.mem_map.2 ⟨k,List.mem_range.2 hk,e⟩
  have hnext:qbk c A k≠t->∀j,j<k+1->qbk c A j≠t:=fun e j hj=>by
   by_cases h1:j=k
   .rw[h1];exact e
   .exact he j (by omega)
  unfold Q98
  generalize qax c A (qac c A)=K at *
  generalize qac c A=N at *
  by_cases hb:qbk c A k=t
  .have n1:(qbk c A k==t)=true:=by simpa using hb
   have hm:=hmem hb
   rw[qad hl]
   simp[L236_0,List.range,List.range.loop,e1,e2,e5,h67,h99,hk',n1]
   exact⟨⟨k,rfl⟩,hm⟩
  .have n1:(qbk c A k==t)=false:=by simpa using hb
   have hm:=hnext hb
   rw[qad hl]
   simp[L236_0,I98,List.range,List.range.loop,e1,e2,e5,h67,h99,hk',n1,wk]
   exact hm
 .rintro⟨s,hh⟩ ⟨rfl,hl,e1,e2,e5,he⟩
  simp only at hl e1 e2 e5
  have hno:¬t∈qax c A (qac c A):=fun h=>by
   obtain⟨j,hj,e⟩:=List.mem_map.1 h
   exact he j (List.mem_range.1 hj) e
  unfold Q98
  generalize qax c A (qac c A)=K at *
  generalize qac c A=N at *
  rw[qad hl]
  simp[L236_0,List.range,List.range.loop,e1,e2,e5,h67]
  exact hno
theorem ev236{c:Ct}{A:Nat}(hM:Mid c A)(t:Txt):∃r:Int,ev pg (.call (.fn 236 [] []) [c.v,.str t] [])=some { v:=num r,st:=⟨[],[]⟩ }/\(0<=r<->t∈qax c A (qac c A)):=by
 have hloop:=z0j hM t
 have hI:∀st:St,(st.h=[⟨0,.box c.cells⟩]/\st.s.length=18/\qai st.s 1=.str t/\qai st.s 2=.bptr 0 0/\qai st.s 5=num 0)->I98 c A t 0 st:=fun st h=>⟨h.1,h.2.1,h.2.2.1,h.2.2.2.1,h.2.2.2.2,fun j hj=>by omega⟩
 unfold Q98 at hloop
 generalize qax c A (qac c A)=K at *
 rw[qaa,pg236]
 simp[ir236,qah]
 generalize hr:ev pg (.code (.going _ L236_0) _)=o
 obtain⟨r,rfl,hl,hQ⟩:∃r,o=some r/\_:=by
  rw[<-hr]
  exact hloop _ (hI _ ⟨by simp,by simp,by simp,by simp,by simp⟩)
 rcases hQ with⟨hx,hno⟩ | ⟨hx,⟨k,h4⟩,hm⟩
 .refine⟨-1,?_,?_⟩
  .simp[hx,hl]
  .exact⟨fun h=>by omega,fun h=>absurd h hno⟩
 .refine⟨k,?_,?_⟩
  .simp[hx,h4]
  .exact⟨fun _=>hm,fun _=>by omega⟩
def I69(c:Ct)(b:Txt)(n:Nat)(st:St):Prop:=st.h=[⟨0,.box c.cells⟩]/\st.s.length=12/\qai st.s 1=.str (qgw b n)/\qai st.s 2=.bptr 0 0
def Q69(c:Ct)(K:List Txt)(b:Txt)(r:R):Prop:=r.x=.exit 0/\r.st.h=[⟨0,.box c.cells⟩]/\r.st.s.length=12/\qai r.st.s 1=.str (qfq K b)
theorem z0e{c:Ct}{A:Nat}(hM:Mid c A)(K:List Txt)(hK:qax c A (qac c A)=K)(b:Txt)(hb:b.length<=100)(st:St)(h0:I69 c b 0 st):∃r,ev pg (.code (.going 1 L188_0) st)=some r/\Q69 c K b r:=by
 have hKl:K.length<=172:=by
  rw[<-hK,qww]
  obtain⟨_,g1,g2,g3,g4⟩:=hM
  unfold qac
  omega
 refine qau (I69 c b) (quq K b) (Q69 c K b) h0 ?_ ?_
 .rintro n ⟨s,hh⟩ hn ⟨rfl,hl,e1,e2⟩
  simp only at hl e1 e2
  obtain⟨r,h98,hr⟩:=ev236 hM (qgw b n)
  rw[hK]at hr
  have h0r:0<=r:=hr.2 (q7s K b n hn)
  have hlen:(qgw b n).length+1<=140737488355328:=by
   have h1:=q1y K b
   rw[jF,kD]
   omega
  have hsu:=q1e b n
  unfold I69
  rw[hsu]
  generalize qgw b n=T at *
  rw[qad hl]
  simp[L188_0,List.range,List.range.loop,e1,e2,h98,h0r,hlen]
 .rintro⟨s,hh⟩ ⟨rfl,hl,e1,e2⟩
  simp only at hl e1 e2
  obtain⟨r,h98,hr⟩:=ev236 hM (qgw b (quq K b))
  rw[hK]at hr
  have h0r:¬0<=r:=fun h=>q9z K b (hr.1 h)
  unfold Q69 qfq
  generalize qgw b (quq K b)=T at *
  rw[qad hl]
  simp[L188_0,List.range,List.range.loop,e1,e2,h98,h0r]
theorem ev188{c:Ct}{A:Nat}(hM:Mid c A)(K:List Txt)(hK:qax c A (qac c A)=K)(b:Txt)(hb:b.length<=100):ev pg (.call (.fn 188 [] []) [c.v,.str b] [])=some { v:=.str (qfq K b),st:=⟨[],[]⟩ }:=by
 have hloop:=z0e hM K hK b hb
 have hI:∀st:St,(st.h=[⟨0,.box c.cells⟩]/\st.s.length=12/\qai st.s 1=.str b/\qai st.s 2=.bptr 0 0)->I69 c b 0 st:=fun st h=>⟨h.1,h.2.1,by rw[h.2.2.1];simp,h.2.2.2⟩
 unfold Q69 at hloop
 generalize qfq K b=F at *
 rw[qaa,pg188]
 simp[ir188,qah]
 generalize hr:ev pg (.code (.going _ L188_0) _)=o
 obtain⟨r,rfl,hx,hh,hl,h1⟩:∃r,o=some r/\_:=by
  rw[<-hr]
  exact hloop _ (hI _ ⟨by simp,by simp,by simp,by simp⟩)
 simp[hx,hl,h1]
end Go.Proofs.YtbepbclaoohngaaGreat
