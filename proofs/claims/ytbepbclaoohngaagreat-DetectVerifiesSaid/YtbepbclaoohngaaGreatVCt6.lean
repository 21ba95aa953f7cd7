/- Variables of an expression: by the program, one after the other; by th. -/
import Derived.Test.YtbepbclaoohngaaGreatVCt3
set_option linter.all false
namespace Go.Proofs.YtbepbclaoohngaaGreat
open Go Go.Am Go.Proofs
set_option maxRecDepth 100000
theorem jen{n:Int}(h:0<=n)(h2:n<256):IntKind.u8.wrap n=n:=by
 unfold IntKind.wrap;simp[IntKind.bits,IntKind.signed];omega
def zkq(n:Nat):Bool:=decide (122<n) || !qdo n
theorem ev251(n:Nat):ev pg (.call (.fn 251 [] []) [.int .i32 n] [])=some { v:=.bool (zkq n),st:=⟨[],[]⟩ }:=by
 rw[qaa,pg251]
 by_cases h:122<n
 .have h':(122:Int)<(n:Int):=by omega
  simp[ir251,zkq,h,h']
 .have h':¬((122:Int)<(n:Int)):=by omega
  have hc:=ev252 n
  have w8:=jen (n:=(n:Int)) (by omega) (by omega)
  simp[ir251,zkq,h,h',w8,hc]
abbrev qgo(s:Txt):Bool:=s.all fun b=>qdo b.toNat
theorem zrs{f:UInt8->Bool}{l:Txt}{k:Nat}(hk:k<l.length):(l.drop k).all f=(f l[k]&&(l.drop (k+1)).all f):=by
 rw[jL hk];rfl
theorem zsf{t:Txt}{k:Nat}(hk:k<t.length)(h:t[k].toNat<128):Utf8.decode ⟨t.toArray⟩ k=(t[k].toNat,1):=by
 have hs:k<(⟨t.toArray⟩:ByteArray).size:=by show k<t.toArray.size;simpa using hk
 have hg:(⟨t.toArray⟩:ByteArray)[k]'hs=t[k]:=by show t.toArray[k]=t[k];simp
 have:=Go.decode_ascii ⟨t.toArray⟩ k hs (by rw[hg];exact h)
 rw[hg]at this
 exact this
theorem zlc{t:Txt}{k:Nat}(hk:k<t.length)(h:128<=t[k].toNat):128<=(Utf8.decode ⟨t.toArray⟩ k).1:=by
 have hs:k<(⟨t.toArray⟩:ByteArray).size:=by show k<t.toArray.size;simpa using hk
 have hg:(⟨t.toArray⟩:ByteArray)[k]'hs=t[k]:=by show t.toArray[k]=t[k];simp
 exact(Go.decode_high ⟨t.toArray⟩ k hs (by rw[hg];exact h)).1
def z9z(t:Txt)(k:Nat)(st:St):Prop:=st.h=[⟨0,.sit t k⟩]/\st.s.length=21/\qai st.s 1=.fn 251 [] []/\qai st.s 2=.bool true/\qai st.s 10=.sit 0/\qgo t=qgo (t.drop k)
def zwd(t:Txt)(r:R):Prop:=r.st.s.length=21/\((r.x=.exit 0/\qgo t=true)\/(r.x=.ret/\∃k:Nat,qai r.st.s 6=num k/\qgo t=false))
theorem zts(t:Txt)(st:St)(h0:z9z t 0 st):∃r,ev pg (.code (.going 1 L293_0) st)=some r/\zwd t r:=by
 refine qau (z9z t) t.length (zwd t) h0 ?_ ?_
 .rintro k ⟨s,h⟩ hk ⟨rfl,hl,e1,e2,e10,he⟩
  simp only at hl e1 e2 e10
  have he2:qgo (t.drop k)=(qdo t[k].toNat&&qgo (t.drop (k+1))):=zrs hk
  rw[he2]at he
  rw[qad hl]
  by_cases hlow:t[k].toNat<128
  .have hd:=zsf hk hlow
   have hc:=ev251 t[k].toNat
   by_cases hw:qdo t[k].toNat=true
   .have hb:zkq t[k].toNat=false:=by
     have:¬122<t[k].toNat:=fun h=>by simp[qdo,qbx]at hw;omega
     simp[zkq,hw,this]
    rw[hw,Bool.true_and]at he
    rw[hb]at hc
    simp[L293_0,z9z,List.range,List.range.loop,e1,e2,e10,hk,hd,hc,he]
   .have hb:zkq t[k].toNat=true:=by simp[zkq,hw]
    have hw':qdo t[k].toNat=false:=by simpa using hw
    rw[hw',Bool.false_and]at he
    rw[hb]at hc
    simp[L293_0,zwd,List.range,List.range.loop,e1,e2,e10,hk,hd,hc,he]
    exact⟨k,rfl⟩
  .have hd:=zlc hk (by omega)
   have hc:=ev251 (Utf8.decode ⟨t.toArray⟩ k).1
   have hb:zkq (Utf8.decode ⟨t.toArray⟩ k).1=true:=by
    have:122<(Utf8.decode ⟨t.toArray⟩ k).1:=by omega
    simp[zkq,this]
   have hw':qdo t[k].toNat=false:=by simp[qdo,qbx];omega
   rw[hw',Bool.false_and]at he
   rw[hb]at hc
   simp[L293_0,zwd,List.range,List.range.loop,e1,e2,e10,hk,hc,he]
   exact⟨k,rfl⟩
 .rintro⟨s,h⟩ ⟨rfl,hl,e1,e2,e10,he⟩
  simp only[List.drop_length]at hl e1 e2 e10 he
  have he':qgo t=true:=he
  rw[qad hl]
  simp[L293_0,zwd,List.range,List.range.loop,e1,e2,e10,he']
theorem ev250(t:Txt):ev pg (.call (.fn 250 [] []) [.str t,.fn 251 [] []] [])=some { v:=.bool (!qgo t),st:=⟨[],[]⟩ }:=by
 have h204:∃i:Int,ev pg (.call (.fn 293 [] []) [.str t,.fn 251 [] [],.bool true] [])=some { v:=num i,st:=⟨[],[]⟩ }/\decide (0<=i)=!qgo t:=by
  rw[qaa,pg293]
  simp[ir293,qah]
  generalize hr:ev pg (.code (.going 1 L293_0) _)=o
  obtain⟨r,rfl,hl,hQ⟩:∃r,o=some r/\zwd t r:=by rw[<-hr];exact zts t _ ⟨by simp,by simp,by simp,by simp,by simp,rfl⟩
  rcases hQ with⟨hx,hE⟩ | ⟨hx,k,h6,hE⟩
  .refine⟨-1,?_⟩
   simp[hx,hl,hE]
  .refine⟨k,?_⟩
   simp[hx,h6,hE]
 obtain⟨i,h204,hi⟩:=h204
 have h189:ev pg (.call (.fn 279 [] []) [.str t,.fn 251 [] []] [])=some { v:=num i,st:=⟨[],[]⟩ }:=by
  rw[qaa,pg279]
  simp[ir279,h204]
 rw[qaa,pg250,<-hi]
 simp[ir250,h189]
theorem q0j:∀l:Txt,qdv false l=qgo l
 | []=>rfl
 | b :: r=>by
  rw[qdv,q0j r]
  show _=(qdo b.toNat&&qgo r)
  cases qdo b.toNat<;>simp
theorem zdr(b:UInt8)(r:Txt):qxu (b :: r)=(qbx b.toNat&&qgo (b :: r)):=by
 show((if(true && !qbx b.toNat) || !qdo b.toNat then false else qdv false r)&&true)=(qbx b.toNat&&(qdo b.toNat&&qgo r))
 rw[q0j]
 cases qbx b.toNat<;>cases qdo b.toNat<;>simp
def qep(K:List Txt)(s:Txt):Int:=if qxu s=true then(if 24<s.length then 17 else if s∈K then 7 else 0)else 3
def qax(c:Ct)(A n:Nat):List Txt:=(List.range n).map (qbl c A)
def z9v(c:Ct)(A n:Nat)(k:Nat)(st:St):Prop:=st.h=[⟨0,.box c.cells⟩]/\st.s.length=26/\qai st.s 1=num n/\qai st.s 2=.bptr 0 0/\qai st.s 5=.str (qbl c A n)/\qai st.s 6=num k/\∀j,j<k->qbl c A j≠qbl c A n
def zxj(c:Ct)(A n:Nat)(r:R):Prop:=r.st.s.length=26/\((r.x=.exit 0/\¬qbl c A n∈qax c A n)\/(r.x=.ret/\qai r.st.s 4=num 7/\qbl c A n∈qax c A n))
theorem zti{c:Ct}{A:Nat}(h:Mid c A)(n:Nat)(hn:n<qac c A)(st:St)(h0:z9v c A n 0 st):∃r,ev pg (.code (.going 1 L128_0) st)=some r/\zxj c A n r:=by
 have hcn:qac c A<=172:=by
  obtain⟨hA,h1,h2,h3,h4⟩:=h
  unfold qac
  omega
 refine qau (z9v c A n) n (zxj c A n) h0 ?_ ?_
 .rintro k ⟨s,hh⟩ hk ⟨rfl,hl,e1,e2,e5,e6,he⟩
  simp only at hl e1 e2 e5 e6
  have hk':(k:Int)<n:=by omega
  have wk:=qbb (k:=k) (by omega)
  have hc:=ev195 h k (by omega)
  rw[qad hl]
  by_cases ha:qbl c A k=qbl c A n
  .have hin:qbl c A n∈qax c A n:=List.mem_map.2 ⟨k,List.mem_range.2 hk,ha⟩
   simp[L128_0,zxj,List.range,List.range.loop,e1,e2,e5,e6,hk',hc,ha,hin]
  .have ha':(qbl c A k==qbl c A n)=false:=by simpa using ha
   simp[L128_0,z9v,List.range,List.range.loop,e1,e2,e5,e6,hk',hc,ha',wk]
   intro j hj
   by_cases hjk:j=k
   .rw[hjk];exact ha
   .exact he j (by omega)
 .rintro⟨s,hh⟩ ⟨rfl,hl,e1,e2,e5,e6,he⟩
  simp only at hl e1 e2 e5 e6
  have hno:¬qbl c A n∈qax c A n:=fun hin=>by
   obtain⟨j,hj,e⟩:=List.mem_map.1 hin
   exact he j (List.mem_range.1 hj) e
  rw[qad hl]
  simp[L128_0,zxj,List.range,List.range.loop,e1,e2,e5,e6,hno]
theorem ev128{c:Ct}{A:Nat}(h:Mid c A)(n:Nat)(hn:n<qac c A)(hlen:(qbl c A n).length<2 ^ 62):ev pg (.call (.fn 128 [] []) [c.v,num n] [])=some { v:=num (qep (qax c A n) (qbl c A n)),st:=⟨[],[]⟩ }:=by
 have hc:=ev195 h n hn
 have hw:=ev196 (qbl c A n) hlen
 rw[qaa,pg128]
 by_cases h1:qxu (qbl c A n)=true
 .by_cases h2:24<(qbl c A n).length
  .have h2':(24:Int)<((qbl c A n).length:Int):=by omega
   simp[ir128,qep,hc,hw,h1,h2,h2']
  .have h2':¬((24:Int)<((qbl c A n).length:Int)):=by omega
   simp[ir128,qep,hc,hw,h1,h2,h2',qah]
   generalize hr:ev pg (.code (.going 1 L128_0) _)=o
   obtain⟨r,rfl,hl,hQ⟩:∃r,o=some r/\zxj c A n r:=by
    rw[<-hr]
    exact zti h n hn _ ⟨by simp,by simp,by simp,by simp,by simp,by simp,fun j hj=>by omega⟩
   rcases hQ with⟨hx,hE⟩ | ⟨hx,h4,hE⟩
   .simp[hx,hl,hE]
   .simp[hx,h4,hE]
 .simp[ir128,qep,hc,hw,h1]
abbrev z9p(l:List (Txt×Int)):List (V×V):=l.map fun p=>(V.str p.1,num p.2)
theorem q9e:∀(l:List (Txt×Int)) (s:Txt),∃r,qoy (z9p l) (.str s)=some r/\r.isSome=decide (s∈l.map Prod.fst)
 | [],s=>⟨none,rfl,by simp⟩
 | (k,v) :: l,s=>by
  obtain⟨r,h1,h2⟩:=q9e l s
  by_cases h:s=k
  .subst h
   exact⟨some (num v),by simp[qoy],by simp⟩
  .have h':(s==k)=false:=by simpa using h
   refine⟨r,?_,?_⟩
   .simp only[List.map_cons,qoy,eqS,h']
    exact h1
   .rw[h2];simp[h]
theorem q8d:∀(l:List (Txt×Int)) (s:Txt) (v:Int),∃l',q2y (z9p l) (.str s) (num v)=some (z9p l')/\∀t,t∈l'.map Prod.fst<->(t∈l.map Prod.fst\/t=s)
 | [],s,v=>⟨[(s,v)],rfl,fun t=>by simp⟩
 | (k,w) :: l,s,v=>by
  obtain⟨l',h1,h2⟩:=q8d l s v
  by_cases h:s=k
  .subst h
   exact⟨(s,v) :: l,by simp[q2y],fun t=>by simp;intro e;exact .inl e⟩
  .have h':(s==k)=false:=by simpa using h
   refine⟨(k,w) :: l',?_,fun t=>?_⟩
   .simp only[List.map_cons,q2y,eqS,h']
    rw[h1];rfl
   .simp only[List.map_cons,List.mem_cons,h2 t]
    exact⟨fun h=>by rcases h with h | h | h<;>simp[h],fun h=>by rcases h with(h | h) | h<;>simp[h]⟩
abbrev z2o(c:Ct):List V:=[num c.act,.imm (c.inputs.map qoe),.imm (c.signals.map Sg.row),qeg c.plus,qeg c.minus,.map 2,.fn 208 [.bptr 3 0] [],.fn 209 [.bptr 3 0] [],.fn 210 [.bptr 3 0] []]
abbrev hX(c:Ct)(l:List (Txt×Int))(t:H):H:=⟨0,.box c.cells⟩ :: ⟨0,.box c.cells⟩ :: ⟨0,.map (z9p l)⟩ :: ⟨0,.box (z2o c)⟩ :: t
theorem ev211(c:Ct)(l:List (Txt×Int))(t:H)(hc:∀l,calm (hX c l t))(s:Txt):∃l',ev pg (.call (.fn 211 [] []) [.bptr 3 0,.str s] (hX c l t))=some { v:=num (qep (l.map Prod.fst) s),st:=⟨[],hX c l' t⟩ }/\((qep (l.map Prod.fst) s=0/\∀q,q∈l'.map Prod.fst<->(q∈l.map Prod.fst\/q=s))\/(qep (l.map Prod.fst) s≠0/\l'=l)):=by
 have h158:=ev250 s
 have hck:∀l,qef (t.length+1+1+1+1) (hX c l t)=hX c l t:=fun l=>qge (hc l)
 rw[qaa,pg211]
 cases s with
 | nil =>
  refine⟨l,?_,.inr ⟨by simp[qep,qxu],rfl⟩⟩
  simp[-qef,ir211,qep,qxu,hck]
 | cons b r =>
  have hwb:=zdr b r
  by_cases g1:b.toNat<97
  .have g1':(b.toNat:Int)<97:=by omega
   have hw:qxu (b :: r)=false:=by rw[hwb];simp[qbx];omega
   refine⟨l,?_,.inr ⟨by simp[qep,hw],rfl⟩⟩
   simp[-qef,ir211,qep,hw,hck,g1']
  by_cases g2:122<b.toNat
  .have g1':¬((b.toNat:Int)<97):=by omega
   have g2':(122:Int)<(b.toNat:Int):=by omega
   have hw:qxu (b :: r)=false:=by rw[hwb];simp[qbx];omega
   refine⟨l,?_,.inr ⟨by simp[qep,hw],rfl⟩⟩
   simp[-qef,ir211,qep,hw,hck,g1',g2']
  have g1':¬((b.toNat:Int)<97):=by omega
  have g2':¬((122:Int)<(b.toNat:Int)):=by omega
  have hsm:qbx b.toNat=true:=by simp[qbx];omega
  rw[hsm,Bool.true_and]at hwb
  generalize hwa:qgo (b :: r)=wa at *
  cases wa with
  | false =>
   refine⟨l,?_,.inr ⟨by simp[qep,hwb],rfl⟩⟩
   simp[-qef,ir211,qep,hwb,hck,g1',g2',h158]
  | true =>
   by_cases g3:24<(b :: r).length
   .have g3':(24:Int)<(r.length:Int)+1:=by simp only[List.length_cons]at g3;omega
    refine⟨l,?_,.inr ⟨by rw[qep,hwb,if_pos rfl,if_pos g3];omega,rfl⟩⟩
    have he:qep (l.map Prod.fst) (b :: r)=17:=by rw[qep,hwb,if_pos rfl,if_pos g3]
    rw[he]
    simp[-qef,ir211,hck,g1',g2',h158,g3']
   .have g3':¬((24:Int)<(r.length:Int)+1):=by simp only[List.length_cons]at g3;omega
    obtain⟨q,hq1,hq2⟩:=q9e l (b :: r)
    by_cases hin:(b :: r)∈l.map Prod.fst
    .have he:qep (l.map Prod.fst) (b :: r)=7:=by rw[qep,hwb,if_pos rfl,if_neg g3,if_pos hin]
     rw[decide_eq_true hin]at hq2
     refine⟨l,?_,.inr ⟨by rw[he];omega,rfl⟩⟩
     rw[he]
     simp[-qef,ir211,hck,g1',g2',h158,g3',hq1,hq2]
    .have he:qep (l.map Prod.fst) (b :: r)=0:=by rw[qep,hwb,if_pos rfl,if_neg g3,if_neg hin]
     rw[decide_eq_false hin]at hq2
     obtain⟨l',hu1,hu2⟩:=q8d l (b :: r) l.length
     refine⟨l',?_,.inl ⟨he,hu2⟩⟩
     rw[he]
     simp[-qef,ir211,qab,exT,qal,hck,g1',g2',h158,g3',hq1,hq2,hu1]
mutual
def Ex.anyV(f:Int->Bool):Ex->Bool
 | .mk o i l=>(decide (o=1)&&f i)||qju f l
def qju(f:Int->Bool):List Ex->Bool
 | []=>false
 | x :: l=>x.anyV f||qju f l
end
theorem q6l(f:Int->Bool)(x:Ex):x.anyV f=((decide (x.op=1)&&f x.idx)||qju f x.args):=by cases x;rw[Ex.anyV];rfl
theorem zkn{f:Int->Bool}{l:List Ex}{k:Nat}(hk:k<l.length):qju f (l.drop k)=(l[k].anyV f||qju f (l.drop (k+1))):=by
 rw[jL hk,qju]
theorem q3r{n:Int}:∀{l:List Ex},q3q n l=0->∀y∈l,y.err n=0
 | [],_,y,hy=>nomatch hy
 | x :: l,h,y,hy=>by
  rw[q3q]at h
  split at h
  .rename_i hx
   rcases List.mem_cons.1 hy with rfl | hy
   .exact hx
   .exact q3r h y hy
  .rename_i hx;exact absurd h hx
theorem qhi{n:Int}{x:Ex}(h:x.err n=0):qbq x.op x.idx x.args.length n=0/\∀y∈x.args,y.err n=0:=by
 rw[q8y]at h
 split at h
 .rename_i h1;exact⟨h1,q3r h⟩
 .rename_i h1;exact absurd h h1
theorem qjo{o i n:Int}{k:Nat}(h:qbq o i k n=0)(ho:o=1):0<=i/\i<n:=by
 subst ho
 by_cases hk:k=0
 .have e:qbq 1 i k n=if i<0\/n<=i then 2 else 0:=by simp[qbq,hk]
  rw[e]at h
  by_cases hc:i<0\/n<=i
  .rw[if_pos hc]at h;omega
  .omega
 .have e:qbq 1 i k n=3:=by simp[qbq,hk]
  omega
structure Eac(n:Nat)(m:Int)(f:Int->Bool)(caps:List V)(base:Bool->H):Prop where
 len:∀b,(base b).length=n+2
 g0:∀b,(base b)[n]?=some ⟨0,.box [.fn 247 [] caps]⟩
 g1:∀b,(base b)[n+1]?=some ⟨0,.box [.fn 275 [] [.bptr n 0,.bptr (n+1) 0]]⟩
 call:∀b (i:Int) r,0<=i/\i<m->(∀b,calm (base b++r))->ev pg (.call (.fn 247 [] caps) [num i] (base b++r))=some { v:=.tup [],st:=⟨[],base (b||f i)++r⟩ }
 caps:V.low 0 (.fn 247 [] caps)=false
structure Keep186(n:Nat)(x:Ex)(k:Nat)(st:List V):Prop where
 nn:qas st
 len:st.length=24
 t2:qai st 2=.bptr (n+1) 0
 t14:qai st 14=.imm (x.args.map Ex.row)
 t15:qai st 15=num x.args.length
 t16:qai st 16=num k
def jep(n:Nat)(f:Int->Bool)(base:Bool->H)(x:Ex)(r:H)(b0:Bool)(k:Nat)(st:St):Prop:=∃b,st.h=base b++(r++[⟨0,.box x.cells⟩])/\Keep186 n x k st.s/\(b0||qju f x.args)=(b||qju f (x.args.drop k))
def zxo(f:Int->Bool)(base:Bool->H)(x:Ex)(r:H)(b0:Bool)(q:Am.R):Prop:=q.st.s.length=24/\q.x=.exit 0/\∃z,q.st.h=base (b0||qju f x.args)++(r++z)
theorem ztq{n0:Nat}{m:Int}{f:Int->Bool}{caps:List V}{base:Bool->H}(hY:Eac n0 m f caps base)(x:Ex)(hx:x.nodes<=256)(hv:∀y∈x.args,y.err m=0)(r:H)(hr:∀b,calm (base b++r))
  (ih:∀y∈x.args,∀(b:Bool) (r:H),y.nodes<=256->y.err m=0->(∀b,calm (base b++r))->ev pg (.call (.fn 275 [] [.bptr n0 0,.bptr (n0+1) 0]) [y.v] (base b++r))=some { v:=.tup [],st:=⟨[],base (b||y.anyV f)++r⟩ })
  (b0:Bool) (n:Nat) (hn:n=n0+2+(r.length+1)) (st:St) (h0:jep n0 f base x r b0 0 st):∃q,ev pg (.code (.going n L275_0) st)=some q/\zxo f base x r b0 q:=by
 have hfew:=qfi hx
 have hrx:∀b,calm (base b++(r++[⟨0,.box x.cells⟩])):=fun b=>by
  rw[<-List.append_assoc]
  exact qhg (hr b) (by simp)
 refine qau (jep n0 f base x r b0) x.args.length (zxo f base x r b0) h0 ?_ ?_
 .rintro k ⟨sl,h⟩ hk ⟨b,rfl,⟨hnn,hl,e2,e14,e15,e16⟩,hw⟩
  simp only at hl e2 e14 e15 e16
  have hnl:∀j,qai sl j ≠ .nils:=qar hnn
  have hk':(k:Int)<x.args.length:=by omega
  have wk:=qbb (k:=k) (by omega)
  have hmem:=jH hk
  have hry:∀b,calm (base b++(r++[⟨0,.box x.cells⟩,⟨0,.arr 0 []⟩,⟨0,.box x.args[k].cells⟩])):=fun b=>by
   have e:base b++(r++[⟨0,.box x.cells⟩,⟨0,.arr 0 []⟩,⟨0,.box x.args[k].cells⟩])=(base b++(r++[⟨0,.box x.cells⟩]))++[⟨0,.arr 0 []⟩,⟨0,.box x.args[k].cells⟩]:=by simp
   rw[e]
   exact qhg (hrx b) (by simp[qcf])
  have hc:=ih x.args[k] hmem b _ (qev hx hmem) (hv _ hmem) hry
  have e0:∀b,base b++(r++[⟨0,.box x.cells⟩,⟨0,.arr 0 []⟩,⟨0,.box x.args[k].cells⟩])=(base b++(r++[⟨0,.box x.cells⟩]))++[⟨0,.arr 0 []⟩,⟨0,.box x.args[k].cells⟩]:=fun b=>by simp
  rw[e0,e0]at hc
  rw[zkn hk,<-Bool.or_assoc]at hw
  generalize hs2:(b||x.args[k].anyV f)=b2 at *
  have hl0:(base b++(r++[⟨0,.box x.cells⟩]):H).length=n:=by simp[hY.len,hn]
  have hl2:(base b2++(r++[⟨0,.box x.cells⟩]):H).length=n:=by simp[hY.len,hn]
  have g1:=qgw (r++[⟨0,.box x.cells⟩]) (hY.g1 b)
  have hc2:=hrx b2
  have hcut:=qpy hc2
  rw[hl2]at hcut
  generalize hG:base b++(r++[⟨0,.box x.cells⟩])=G at *
  generalize hG2:base b2++(r++[⟨0,.box x.cells⟩])=G2 at *
  have g1':∀z,(G++z)[n0+1]?=some ⟨0,.box [.fn 275 [] [.bptr n0 0,.bptr (n0+1) 0]]⟩:=fun z=>qgw z g1
  have t1:=z9t hl0
  rw[qad hl]
  simp[-qje,L275_0,List.range,List.range.loop,e2,e14,e15,e16,hk,hk',wk,hl0,t1,g1',hc,hcut]
  have h9:n0+1<n:=by omega
  exact⟨b2,hG2.symm,⟨by simp[qas,hnl],rfl,by simp[h9],rfl,rfl,rfl⟩,hw⟩
 .rintro⟨sl,h⟩ ⟨b,rfl,⟨hnn,hl,e2,e14,e15,e16⟩,hw⟩
  simp only[List.drop_length]at hl e2 e14 e15 e16 hw
  rw[qju,Bool.or_false]at hw
  rw[qad hl]
  simp[L275_0,zxo,List.range,List.range.loop,e2,e14,e15,e16,hw]
theorem ev275{n0:Nat}{m:Int}{f:Int->Bool}{caps:List V}{base:Bool->H}(hY:Eac n0 m f caps base):∀(x:Ex) (b:Bool) (r:H),x.nodes<=256->x.err m=0->(∀b,calm (base b++r))->ev pg (.call (.fn 275 [] [.bptr n0 0,.bptr (n0+1) 0]) [x.v] (base b++r))=some { v:=.tup [],st:=⟨[],base (b||x.anyV f)++r⟩ }:=by
 refine Ex.ind fun x ih b r hx hv hr=>?_
 obtain⟨hv1,hv2⟩:=qhi hv
 have hrx:∀b,calm (base b++(r++[⟨0,.box x.cells⟩])):=fun b=>by
  rw[<-List.append_assoc]
  exact qhg (hr b) (by simp)
 have hloop:=fun b1=>ztq hY x hx hv2 r hr ih b1 (n0+2+(r.length+1)) rfl
 rw[q6l]
 have hl0:(base b++r:H).length=n0+2+r.length:=by simp[hY.len]
 have g0:=qgw r (hY.g0 b)
 have gx:∀b,(base b++(r++[⟨0,.box x.cells⟩]))[n0+2+r.length]?=some ⟨0,.box x.cells⟩:=fun b=>by
  have:=jao (h:=base b++r) (n:=n0+2+r.length) (by simp[hY.len]) ⟨0,.box x.cells⟩
  rwa [List.append_assoc]at this
 have g0':=qgw [⟨0,.box x.cells⟩] g0
 rw[List.append_assoc]at g0'
 have hcut:∀b z,qef (n0+2+r.length) (base b++(r++z))=base b++r:=fun b z=>by
  have:=qfj (hr b) z
  rw[List.append_assoc]at this
  rw[show(base b++r:H).length=n0+2+r.length by simp[hY.len]]at this
  exact this
 rw[qaa,pg275]
 by_cases ho:x.op=1
 .have hcl:=hY.call b x.idx (r++[⟨0,.box x.cells⟩]) (qjo hv1 ho) hrx
  have e:(b||(decide (x.op=1)&&f x.idx||qju f x.args))=((b||f x.idx)||qju f x.args):=by simp[ho,Bool.or_assoc]
  rw[e]
  have hloop:=hloop (b||f x.idx)
  generalize (b||f x.idx)=b1 at *
  have hcp:=hY.caps
  have hob:(x.op==1)=true:=by simpa using ho
  simp at hcp
  simp[-qef,ir275,hY.len,g0',hob,hcp,hcl,qah]
  generalize hq:ev pg (.code (.going _ L275_0) _)=o
  obtain⟨q,rfl,hl,hx,z,hh⟩:∃q,o=some q/\zxo f base x r b1 q:=by
   rw[<-hq]
   refine hloop _ ⟨b1,rfl,⟨?_,?_,?_,?_,?_,?_⟩,rfl⟩
   all_goals simp[qas]
  simp[-qef,hx,hh,hcut]
 .have e:(b||(decide (x.op=1)&&f x.idx||qju f x.args))=(b||qju f x.args):=by simp[ho]
  rw[e]
  have hob:(x.op==1)=false:=by simpa using ho
  simp[-qef,ir275,hY.len,hob,qah]
  generalize hq:ev pg (.code (.going _ L275_0) _)=o
  obtain⟨q,rfl,hl,hx,z,hh⟩:∃q,o=some q/\zxo f base x r b q:=by
   rw[<-hq]
   refine hloop b _ ⟨b,rfl,⟨?_,?_,?_,?_,?_,?_⟩,rfl⟩
   all_goals simp[qas]
  simp[-qef,hx,hh,hcut]
end Go.Proofs.YtbepbclaoohngaaGreat
