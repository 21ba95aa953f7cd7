/- Variables of an expression: by the program, one after the other; by th. -/
import Derived.Test.YtbepbclaoohngaaGreatCt3
set_option linter.all false
namespace Go.Proofs.YtbepbclaoohngaaGreat
open Go Go.Am Go.Proofs
set_option maxRecDepth 100000
theorem jdz{n:Int}(h:0<=n)(h2:n<256):IntKind.u8.wrap n=n:=by
 unfold IntKind.wrap;simp[IntKind.bits,IntKind.signed];omega
def zma(n:Nat):Bool:=decide (122<n) || !qdm n
theorem ev251(n:Nat):ev pg (.call (.fn 251 [] []) [.int .i32 n] [])=some { v:=.bool (zma n),st:=⟨[],[]⟩ }:=by
 rw[qab,pg251]
 by_cases h:122<n
 .have h':(122:Int)<(n:Int):=by omega
  simp[ir251,zma,h,h']
 .have h':¬((122:Int)<(n:Int)):=by omega
  have hc:=ev252 n
  have w8:=jdz (n:=(n:Int)) (by omega) (by omega)
  simp[ir251,zma,h,h',w8,hc]
abbrev qgs(s:Txt):Bool:=s.all fun b=>qdm b.toNat
theorem zta{f:UInt8->Bool}{l:Txt}{k:Nat}(hk:k<l.length):(l.drop k).all f=(f l[k]&&(l.drop (k+1)).all f):=by
 rw[jL hk];rfl
theorem ztn{t:Txt}{k:Nat}(hk:k<t.length)(h:t[k].toNat<128):Utf8.decode ⟨t.toArray⟩ k=(t[k].toNat,1):=by
 have hs:k<(⟨t.toArray⟩:ByteArray).size:=by show k<t.toArray.size;simpa using hk
 have hg:(⟨t.toArray⟩:ByteArray)[k]'hs=t[k]:=by show t.toArray[k]=t[k];simp
 have:=Go.decode_ascii ⟨t.toArray⟩ k hs (by rw[hg];exact h)
 rw[hg]at this
 exact this
theorem zmm{t:Txt}{k:Nat}(hk:k<t.length)(h:128<=t[k].toNat):128<=(Utf8.decode ⟨t.toArray⟩ k).1:=by
 have hs:k<(⟨t.toArray⟩:ByteArray).size:=by show k<t.toArray.size;simpa using hk
 have hg:(⟨t.toArray⟩:ByteArray)[k]'hs=t[k]:=by show t.toArray[k]=t[k];simp
 exact(Go.decode_high ⟨t.toArray⟩ k hs (by rw[hg];exact h)).1
def jah(t:Txt)(k:Nat)(st:St):Prop:=st.h=[⟨0,.sit t k⟩]/\st.s.length=21/\qag st.s 1=.fn 251 [] []/\qag st.s 2=.bool true/\qag st.s 10=.sit 0/\qgs t=qgs (t.drop k)
def zxq(t:Txt)(r:R):Prop:=r.st.s.length=21/\((r.x=.exit 0/\qgs t=true)\/(r.x=.ret/\∃k:Nat,qag r.st.s 6=num k/\qgs t=false))
theorem zve(t:Txt)(st:St)(h0:jah t 0 st):∃r,ev pg (.code (.going 1 L293_0) st)=some r/\zxq t r:=by
 refine qat (jah t) t.length (zxq t) h0 ?_ ?_
 .rintro k ⟨s,h⟩ hk ⟨rfl,hl,e1,e2,e10,he⟩
  simp only at hl e1 e2 e10
  have he2:qgs (t.drop k)=(qdm t[k].toNat&&qgs (t.drop (k+1))):=zta hk
  rw[he2]at he
  rw[qac hl]
  by_cases hlow:t[k].toNat<128
  .have hd:=ztn hk hlow
   have hc:=ev251 t[k].toNat
   by_cases hw:qdm t[k].toNat=true
   .have hb:zma t[k].toNat=false:=by
     have:¬122<t[k].toNat:=fun h=>by simp[qdm,qbw]at hw;omega
     simp[zma,hw,this]
    rw[hw,Bool.true_and]at he
    rw[hb]at hc
    simp[L293_0,jah,List.range,List.range.loop,e1,e2,e10,hk,hd,hc,he]
   .have hb:zma t[k].toNat=true:=by simp[zma,hw]
    have hw':qdm t[k].toNat=false:=by simpa using hw
    rw[hw',Bool.false_and]at he
    rw[hb]at hc
    simp[L293_0,zxq,List.range,List.range.loop,e1,e2,e10,hk,hd,hc,he]
    exact⟨k,rfl⟩
  .have hd:=zmm hk (by omega)
   have hc:=ev251 (Utf8.decode ⟨t.toArray⟩ k).1
   have hb:zma (Utf8.decode ⟨t.toArray⟩ k).1=true:=by
    have:122<(Utf8.decode ⟨t.toArray⟩ k).1:=by omega
    simp[zma,this]
   have hw':qdm t[k].toNat=false:=by simp[qdm,qbw];omega
   rw[hw',Bool.false_and]at he
   rw[hb]at hc
   simp[L293_0,zxq,List.range,List.range.loop,e1,e2,e10,hk,hc,he]
   exact⟨k,rfl⟩
 .rintro⟨s,h⟩ ⟨rfl,hl,e1,e2,e10,he⟩
  simp only[List.drop_length]at hl e1 e2 e10 he
  have he':qgs t=true:=he
  rw[qac hl]
  simp[L293_0,zxq,List.range,List.range.loop,e1,e2,e10,he']
theorem ev250(t:Txt):ev pg (.call (.fn 250 [] []) [.str t,.fn 251 [] []] [])=some { v:=.bool (!qgs t),st:=⟨[],[]⟩ }:=by
 have h204:∃i:Int,ev pg (.call (.fn 293 [] []) [.str t,.fn 251 [] [],.bool true] [])=some { v:=num i,st:=⟨[],[]⟩ }/\decide (0<=i)=!qgs t:=by
  rw[qab,pg293]
  simp[ir293,qam]
  generalize hr:ev pg (.code (.going 1 L293_0) _)=o
  obtain⟨r,rfl,hl,hQ⟩:∃r,o=some r/\zxq t r:=by rw[<-hr];exact zve t _ ⟨by simp,by simp,by simp,by simp,by simp,rfl⟩
  rcases hQ with⟨hx,hE⟩ | ⟨hx,k,h6,hE⟩
  .refine⟨-1,?_⟩
   simp[hx,hl,hE]
  .refine⟨k,?_⟩
   simp[hx,h6,hE]
 obtain⟨i,h204,hi⟩:=h204
 have h189:ev pg (.call (.fn 279 [] []) [.str t,.fn 251 [] []] [])=some { v:=num i,st:=⟨[],[]⟩ }:=by
  rw[qab,pg279]
  simp[ir279,h204]
 rw[qab,pg250,<-hi]
 simp[ir250,h189]
theorem q1o:∀l:Txt,qdr false l=qgs l
 | []=>rfl
 | b :: r=>by
  rw[qdr,q1o r]
  show _=(qdm b.toNat&&qgs r)
  cases qdm b.toNat<;>simp
theorem zez(b:UInt8)(r:Txt):qyp (b :: r)=(qbw b.toNat&&qgs (b :: r)):=by
 show((if(true && !qbw b.toNat) || !qdm b.toNat then false else qdr false r)&&true)=(qbw b.toNat&&(qdm b.toNat&&qgs r))
 rw[q1o]
 cases qbw b.toNat<;>cases qdm b.toNat<;>simp
def qeh(K:List Txt)(s:Txt):Int:=if qyp s=true then(if 24<s.length then 17 else if s∈K then 7 else 0)else 3
def qax(c:Ct)(A n:Nat):List Txt:=(List.range n).map (qbl c A)
def jad(c:Ct)(A n:Nat)(k:Nat)(st:St):Prop:=st.h=[⟨0,.box c.cells⟩]/\st.s.length=26/\qag st.s 1=num n/\qag st.s 2=.bptr 0 0/\qag st.s 5=.str (qbl c A n)/\qag st.s 6=num k/\∀j,j<k->qbl c A j≠qbl c A n
def zyr(c:Ct)(A n:Nat)(r:R):Prop:=r.st.s.length=26/\((r.x=.exit 0/\¬qbl c A n∈qax c A n)\/(r.x=.ret/\qag r.st.s 4=num 7/\qbl c A n∈qax c A n))
theorem zus{c:Ct}{A:Nat}(h:Mid c A)(n:Nat)(hn:n<qad c A)(st:St)(h0:jad c A n 0 st):∃r,ev pg (.code (.going 1 L128_0) st)=some r/\zyr c A n r:=by
 have hcn:qad c A<=172:=by
  obtain⟨hA,h1,h2,h3,h4⟩:=h
  unfold qad
  omega
 refine qat (jad c A n) n (zyr c A n) h0 ?_ ?_
 .rintro k ⟨s,hh⟩ hk ⟨rfl,hl,e1,e2,e5,e6,he⟩
  simp only at hl e1 e2 e5 e6
  have hk':(k:Int)<n:=by omega
  have wk:=qbs (k:=k) (by omega)
  have hc:=ev195 h k (by omega)
  rw[qac hl]
  by_cases ha:qbl c A k=qbl c A n
  .have hin:qbl c A n∈qax c A n:=List.mem_map.2 ⟨k,List.mem_range.2 hk,ha⟩
   simp[L128_0,zyr,List.range,List.range.loop,e1,e2,e5,e6,hk',hc,ha,hin]
  .have ha':(qbl c A k==qbl c A n)=false:=by simpa using ha
   simp[L128_0,jad,List.range,List.range.loop,e1,e2,e5,e6,hk',hc,ha',wk]
   intro j hj
   by_cases hjk:j=k
   .rw[hjk];exact ha
   .exact he j (by omega)
 .rintro⟨s,hh⟩ ⟨rfl,hl,e1,e2,e5,e6,he⟩
  simp only at hl e1 e2 e5 e6
  have hno:¬qbl c A n∈qax c A n:=fun hin=>by
   obtain⟨j,hj,e⟩:=List.mem_map.1 hin
   exact he j (List.mem_range.1 hj) e
  rw[qac hl]
  simp[L128_0,zyr,List.range,List.range.loop,e1,e2,e5,e6,hno]
theorem ev128{c:Ct}{A:Nat}(h:Mid c A)(n:Nat)(hn:n<qad c A)(hlen:(qbl c A n).length<2 ^ 62):ev pg (.call (.fn 128 [] []) [c.v,num n] [])=some { v:=num (qeh (qax c A n) (qbl c A n)),st:=⟨[],[]⟩ }:=by
 have hc:=ev195 h n hn
 have hw:=ev196 (qbl c A n) hlen
 rw[qab,pg128]
 by_cases h1:qyp (qbl c A n)=true
 .by_cases h2:24<(qbl c A n).length
  .have h2':(24:Int)<((qbl c A n).length:Int):=by omega
   simp[ir128,qeh,hc,hw,h1,h2,h2']
  .have h2':¬((24:Int)<((qbl c A n).length:Int)):=by omega
   simp[ir128,qeh,hc,hw,h1,h2,h2',qam]
   generalize hr:ev pg (.code (.going 1 L128_0) _)=o
   obtain⟨r,rfl,hl,hQ⟩:∃r,o=some r/\zyr c A n r:=by
    rw[<-hr]
    exact zus h n hn _ ⟨by simp,by simp,by simp,by simp,by simp,by simp,fun j hj=>by omega⟩
   rcases hQ with⟨hx,hE⟩ | ⟨hx,h4,hE⟩
   .simp[hx,hl,hE]
   .simp[hx,h4,hE]
 .simp[ir128,qeh,hc,hw,h1]
abbrev z9t(l:List (Txt×Int)):List (V×V):=l.map fun p=>(V.str p.1,num p.2)
theorem zaj:∀(l:List (Txt×Int)) (s:Txt),∃r,qur (z9t l) (.str s)=some r/\r.isSome=decide (s∈l.map Prod.fst)
 | [],s=>⟨none,rfl,by simp⟩
 | (k,v) :: l,s=>by
  obtain⟨r,h1,h2⟩:=zaj l s
  by_cases h:s=k
  .subst h
   exact⟨some (num v),by simp[qur],by simp⟩
  .have h':(s==k)=false:=by simpa using h
   refine⟨r,?_,?_⟩
   .simp only[List.map_cons,qur,eqS,h']
    exact h1
   .rw[h2];simp[h]
theorem q9g:∀(l:List (Txt×Int)) (s:Txt) (v:Int),∃l',q9f (z9t l) (.str s) (num v)=some (z9t l')/\∀t,t∈l'.map Prod.fst<->(t∈l.map Prod.fst\/t=s)
 | [],s,v=>⟨[(s,v)],rfl,fun t=>by simp⟩
 | (k,w) :: l,s,v=>by
  obtain⟨l',h1,h2⟩:=q9g l s v
  by_cases h:s=k
  .subst h
   exact⟨(s,v) :: l,by simp[q9f],fun t=>by simp;intro e;exact .inl e⟩
  .have h':(s==k)=false:=by simpa using h
   refine⟨(k,w) :: l',?_,fun t=>?_⟩
   .simp only[List.map_cons,q9f,eqS,h']
    rw[h1];rfl
   .simp only[List.map_cons,List.mem_cons,h2 t]
    exact⟨fun h=>by rcases h with h | h | h<;>simp[h],fun h=>by rcases h with(h | h) | h<;>simp[h]⟩
abbrev z3r(c:Ct):List V:=[num c.act,.imm (c.inputs.map qoq),.imm (c.signals.map Sg.row),qes c.plus,qes c.minus,.map 2,.fn 208 [.bptr 3 0] [],.fn 209 [.bptr 3 0] [],.fn 210 [.bptr 3 0] []]
abbrev hX(c:Ct)(l:List (Txt×Int))(t:H):H:=⟨0,.box c.cells⟩ :: ⟨0,.box c.cells⟩ :: ⟨0,.map (z9t l)⟩ :: ⟨0,.box (z3r c)⟩ :: t
theorem ev211(c:Ct)(l:List (Txt×Int))(t:H)(hc:∀l,calm (hX c l t))(s:Txt):∃l',ev pg (.call (.fn 211 [] []) [.bptr 3 0,.str s] (hX c l t))=some { v:=num (qeh (l.map Prod.fst) s),st:=⟨[],hX c l' t⟩ }/\((qeh (l.map Prod.fst) s=0/\∀q,q∈l'.map Prod.fst<->(q∈l.map Prod.fst\/q=s))\/(qeh (l.map Prod.fst) s≠0/\l'=l)):=by
 have h158:=ev250 s
 have hck:∀l,qds (t.length+1+1+1+1) (hX c l t)=hX c l t:=fun l=>qgl (hc l)
 rw[qab,pg211]
 cases s with
 | nil =>
  refine⟨l,?_,.inr ⟨by simp[qeh,qyp],rfl⟩⟩
  simp[-qds,ir211,qeh,qyp,hck]
 | cons b r =>
  have hwb:=zez b r
  by_cases g1:b.toNat<97
  .have g1':(b.toNat:Int)<97:=by omega
   have hw:qyp (b :: r)=false:=by rw[hwb];simp[qbw];omega
   refine⟨l,?_,.inr ⟨by simp[qeh,hw],rfl⟩⟩
   simp[-qds,ir211,qeh,hw,hck,g1']
  by_cases g2:122<b.toNat
  .have g1':¬((b.toNat:Int)<97):=by omega
   have g2':(122:Int)<(b.toNat:Int):=by omega
   have hw:qyp (b :: r)=false:=by rw[hwb];simp[qbw];omega
   refine⟨l,?_,.inr ⟨by simp[qeh,hw],rfl⟩⟩
   simp[-qds,ir211,qeh,hw,hck,g1',g2']
  have g1':¬((b.toNat:Int)<97):=by omega
  have g2':¬((122:Int)<(b.toNat:Int)):=by omega
  have hsm:qbw b.toNat=true:=by simp[qbw];omega
  rw[hsm,Bool.true_and]at hwb
  generalize hwa:qgs (b :: r)=wa at *
  cases wa with
  | false =>
   refine⟨l,?_,.inr ⟨by simp[qeh,hwb],rfl⟩⟩
   simp[-qds,ir211,qeh,hwb,hck,g1',g2',h158]
  | true =>
   by_cases g3:24<(b :: r).length
   .have g3':(24:Int)<(r.length:Int)+1:=by simp only[List.length_cons]at g3;omega
    refine⟨l,?_,.inr ⟨by rw[qeh,hwb,if_pos rfl,if_pos g3];omega,rfl⟩⟩
    have he:qeh (l.map Prod.fst) (b :: r)=17:=by rw[qeh,hwb,if_pos rfl,if_pos g3]
    rw[he]
    simp[-qds,ir211,hck,g1',g2',h158,g3']
   .have g3':¬((24:Int)<(r.length:Int)+1):=by simp only[List.length_cons]at g3;omega
    obtain⟨q,hq1,hq2⟩:=zaj l (b :: r)
    by_cases hin:(b :: r)∈l.map Prod.fst
    .have he:qeh (l.map Prod.fst) (b :: r)=7:=by rw[qeh,hwb,if_pos rfl,if_neg g3,if_pos hin]
     rw[decide_eq_true hin]at hq2
     refine⟨l,?_,.inr ⟨by rw[he];omega,rfl⟩⟩
     rw[he]
     simp[-qds,ir211,hck,g1',g2',h158,g3',hq1,hq2]
    .have he:qeh (l.map Prod.fst) (b :: r)=0:=by rw[qeh,hwb,if_pos rfl,if_neg g3,if_neg hin]
     rw[decide_eq_false hin]at hq2
     obtain⟨l',hu1,hu2⟩:=q9g l (b :: r) l.length
     refine⟨l',?_,.inl ⟨he,hu2⟩⟩
     rw[he]
     simp[-qds,ir211,qaa,exT,qak,hck,g1',g2',h158,g3',hq1,hq2,hu1]
mutual
def Ex.anyV(f:Int->Bool):Ex->Bool
 | .mk o i l=>(decide (o=1)&&f i)||qke f l
def qke(f:Int->Bool):List Ex->Bool
 | []=>false
 | x :: l=>x.anyV f||qke f l
end
theorem q7q(f:Int->Bool)(x:Ex):x.anyV f=((decide (x.op=1)&&f x.idx)||qke f x.args):=by cases x;rw[Ex.anyV];rfl
theorem zlw{f:Int->Bool}{l:List Ex}{k:Nat}(hk:k<l.length):qke f (l.drop k)=(l[k].anyV f||qke f (l.drop (k+1))):=by
 rw[jL hk,qke]
theorem q4t{n:Int}:∀{l:List Ex},q4s n l=0->∀y∈l,y.err n=0
 | [],_,y,hy=>nomatch hy
 | x :: l,h,y,hy=>by
  rw[q4s]at h
  split at h
  .rename_i hx
   rcases List.mem_cons.1 hy with rfl | hy
   .exact hx
   .exact q4t h y hy
  .rename_i hx;exact absurd h hx
theorem qil{n:Int}{x:Ex}(h:x.err n=0):qbr x.op x.idx x.args.length n=0/\∀y∈x.args,y.err n=0:=by
 rw[zae]at h
 split at h
 .rename_i h1;exact⟨h1,q4t h⟩
 .rename_i h1;exact absurd h h1
theorem qlk{o i n:Int}{k:Nat}(h:qbr o i k n=0)(ho:o=1):0<=i/\i<n:=by
 subst ho
 by_cases hk:k=0
 .have e:qbr 1 i k n=if i<0\/n<=i then 2 else 0:=by simp[qbr,hk]
  rw[e]at h
  by_cases hc:i<0\/n<=i
  .rw[if_pos hc]at h;omega
  .omega
 .have e:qbr 1 i k n=3:=by simp[qbr,hk]
  omega
structure Eac(n:Nat)(m:Int)(f:Int->Bool)(caps:List V)(base:Bool->H):Prop where
 len:∀b,(base b).length=n+2
 g0:∀b,(base b)[n]?=some ⟨0,.box [.fn 247 [] caps]⟩
 g1:∀b,(base b)[n+1]?=some ⟨0,.box [.fn 275 [] [.bptr n 0,.bptr (n+1) 0]]⟩
 call:∀b (i:Int) r,0<=i/\i<m->(∀b,calm (base b++r))->ev pg (.call (.fn 247 [] caps) [num i] (base b++r))=some { v:=.tup [],st:=⟨[],base (b||f i)++r⟩ }
 caps:V.low 0 (.fn 247 [] caps)=false
structure Keep186(n:Nat)(x:Ex)(k:Nat)(st:List V):Prop where
 nn:qaq st
 len:st.length=24
 t2:qag st 2=.bptr (n+1) 0
 t14:qag st 14=.imm (x.args.map Ex.row)
 t15:qag st 15=num x.args.length
 t16:qag st 16=num k
def jeb(n:Nat)(f:Int->Bool)(base:Bool->H)(x:Ex)(r:H)(b0:Bool)(k:Nat)(st:St):Prop:=∃b,st.h=base b++(r++[⟨0,.box x.cells⟩])/\Keep186 n x k st.s/\(b0||qke f x.args)=(b||qke f (x.args.drop k))
def zyw(f:Int->Bool)(base:Bool->H)(x:Ex)(r:H)(b0:Bool)(q:Am.R):Prop:=q.st.s.length=24/\q.x=.exit 0/\∃z,q.st.h=base (b0||qke f x.args)++(r++z)
theorem zvc{n0:Nat}{m:Int}{f:Int->Bool}{caps:List V}{base:Bool->H}(hY:Eac n0 m f caps base)(x:Ex)(hx:x.nodes<=256)(hv:∀y∈x.args,y.err m=0)(r:H)(hr:∀b,calm (base b++r))
  (ih:∀y∈x.args,∀(b:Bool) (r:H),y.nodes<=256->y.err m=0->(∀b,calm (base b++r))->ev pg (.call (.fn 275 [] [.bptr n0 0,.bptr (n0+1) 0]) [y.v] (base b++r))=some { v:=.tup [],st:=⟨[],base (b||y.anyV f)++r⟩ })
  (b0:Bool) (n:Nat) (hn:n=n0+2+(r.length+1)) (st:St) (h0:jeb n0 f base x r b0 0 st):∃q,ev pg (.code (.going n L275_0) st)=some q/\zyw f base x r b0 q:=by
 have hfew:=qfz hx
 have hrx:∀b,calm (base b++(r++[⟨0,.box x.cells⟩])):=fun b=>by
  rw[<-List.append_assoc]
  exact qhk (hr b) (by simp)
 refine qat (jeb n0 f base x r b0) x.args.length (zyw f base x r b0) h0 ?_ ?_
 .rintro k ⟨sl,h⟩ hk ⟨b,rfl,⟨hnn,hl,e2,e14,e15,e16⟩,hw⟩
  simp only at hl e2 e14 e15 e16
  have hnl:∀j,qag sl j ≠ .nils:=qas hnn
  have hk':(k:Int)<x.args.length:=by omega
  have wk:=qbs (k:=k) (by omega)
  have hmem:=jH hk
  have hry:∀b,calm (base b++(r++[⟨0,.box x.cells⟩,⟨0,.arr 0 []⟩,⟨0,.box x.args[k].cells⟩])):=fun b=>by
   have e:base b++(r++[⟨0,.box x.cells⟩,⟨0,.arr 0 []⟩,⟨0,.box x.args[k].cells⟩])=(base b++(r++[⟨0,.box x.cells⟩]))++[⟨0,.arr 0 []⟩,⟨0,.box x.args[k].cells⟩]:=by simp
   rw[e]
   exact qhk (hrx b) (by simp[qcc])
  have hc:=ih x.args[k] hmem b _ (qfb hx hmem) (hv _ hmem) hry
  have e0:∀b,base b++(r++[⟨0,.box x.cells⟩,⟨0,.arr 0 []⟩,⟨0,.box x.args[k].cells⟩])=(base b++(r++[⟨0,.box x.cells⟩]))++[⟨0,.arr 0 []⟩,⟨0,.box x.args[k].cells⟩]:=fun b=>by simp
  rw[e0,e0]at hc
  rw[zlw hk,<-Bool.or_assoc]at hw
  generalize hs2:(b||x.args[k].anyV f)=b2 at *
  have hl0:(base b++(r++[⟨0,.box x.cells⟩]):H).length=n:=by simp[hY.len,hn]
  have hl2:(base b2++(r++[⟨0,.box x.cells⟩]):H).length=n:=by simp[hY.len,hn]
  have g1:=qgy (r++[⟨0,.box x.cells⟩]) (hY.g1 b)
  have hc2:=hrx b2
  have hcut:=qqh hc2
  rw[hl2]at hcut
  generalize hG:base b++(r++[⟨0,.box x.cells⟩])=G at *
  generalize hG2:base b2++(r++[⟨0,.box x.cells⟩])=G2 at *
  have g1':∀z,(G++z)[n0+1]?=some ⟨0,.box [.fn 275 [] [.bptr n0 0,.bptr (n0+1) 0]]⟩:=fun z=>qgy z g1
  have t1:=z9x hl0
  rw[qac hl]
  simp[-qjn,L275_0,List.range,List.range.loop,e2,e14,e15,e16,hk,hk',wk,hl0,t1,g1',hc,hcut]
  have h9:n0+1<n:=by omega
  exact⟨b2,hG2.symm,⟨by simp[qaq,hnl],rfl,by simp[h9],rfl,rfl,rfl⟩,hw⟩
 .rintro⟨sl,h⟩ ⟨b,rfl,⟨hnn,hl,e2,e14,e15,e16⟩,hw⟩
  simp only[List.drop_length]at hl e2 e14 e15 e16 hw
  rw[qke,Bool.or_false]at hw
  rw[qac hl]
  simp[L275_0,zyw,List.range,List.range.loop,e2,e14,e15,e16,hw]
theorem ev275{n0:Nat}{m:Int}{f:Int->Bool}{caps:List V}{base:Bool->H}(hY:Eac n0 m f caps base):∀(x:Ex) (b:Bool) (r:H),x.nodes<=256->x.err m=0->(∀b,calm (base b++r))->ev pg (.call (.fn 275 [] [.bptr n0 0,.bptr (n0+1) 0]) [x.v] (base b++r))=some { v:=.tup [],st:=⟨[],base (b||x.anyV f)++r⟩ }:=by
 refine Ex.ind fun x ih b r hx hv hr=>?_
 obtain⟨hv1,hv2⟩:=qil hv
 have hrx:∀b,calm (base b++(r++[⟨0,.box x.cells⟩])):=fun b=>by
  rw[<-List.append_assoc]
  exact qhk (hr b) (by simp)
 have hloop:=fun b1=>zvc hY x hx hv2 r hr ih b1 (n0+2+(r.length+1)) rfl
 rw[q7q]
 have hl0:(base b++r:H).length=n0+2+r.length:=by simp[hY.len]
 have g0:=qgy r (hY.g0 b)
 have gx:∀b,(base b++(r++[⟨0,.box x.cells⟩]))[n0+2+r.length]?=some ⟨0,.box x.cells⟩:=fun b=>by
  have:=jaq (h:=base b++r) (n:=n0+2+r.length) (by simp[hY.len]) ⟨0,.box x.cells⟩
  rwa [List.append_assoc]at this
 have g0':=qgy [⟨0,.box x.cells⟩] g0
 rw[List.append_assoc]at g0'
 have hcut:∀b z,qds (n0+2+r.length) (base b++(r++z))=base b++r:=fun b z=>by
  have:=qep (hr b) z
  rw[List.append_assoc]at this
  rw[show(base b++r:H).length=n0+2+r.length by simp[hY.len]]at this
  exact this
 rw[qab,pg275]
 by_cases ho:x.op=1
 .have hcl:=hY.call b x.idx (r++[⟨0,.box x.cells⟩]) (qlk hv1 ho) hrx
  have e:(b||(decide (x.op=1)&&f x.idx||qke f x.args))=((b||f x.idx)||qke f x.args):=by simp[ho,Bool.or_assoc]
  rw[e]
  have hloop:=hloop (b||f x.idx)
  generalize (b||f x.idx)=b1 at *
  have hcp:=hY.caps
  have hob:(x.op==1)=true:=by simpa using ho
  simp at hcp
  simp[-qds,ir275,hY.len,g0',hob,hcp,hcl,qam]
  generalize hq:ev pg (.code (.going _ L275_0) _)=o
  obtain⟨q,rfl,hl,hx,z,hh⟩:∃q,o=some q/\zyw f base x r b1 q:=by
   rw[<-hq]
   refine hloop _ ⟨b1,rfl,⟨?_,?_,?_,?_,?_,?_⟩,rfl⟩
   all_goals simp[qaq]
  simp[-qds,hx,hh,hcut]
 .have e:(b||(decide (x.op=1)&&f x.idx||qke f x.args))=(b||qke f x.args):=by simp[ho]
  rw[e]
  have hob:(x.op==1)=false:=by simpa using ho
  simp[-qds,ir275,hY.len,hob,qam]
  generalize hq:ev pg (.code (.going _ L275_0) _)=o
  obtain⟨q,rfl,hl,hx,z,hh⟩:∃q,o=some q/\zyw f base x r b q:=by
   rw[<-hq]
   refine hloop b _ ⟨b,rfl,⟨?_,?_,?_,?_,?_,?_⟩,rfl⟩
   all_goals simp[qaq]
  simp[-qds,hx,hh,hcut]
end Go.Proofs.YtbepbclaoohngaaGreat
