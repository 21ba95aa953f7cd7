/- Names, by the program: the bytes of a text, rune after rune. Names of lines: errors, by the reference and by the program. Variables of an expression: by the program, one after the other; by the reference. -/
import Derived.Test.YtddeacahiilikaaGreatRCt3
set_option linter.all false
namespace Go.Proofs.YtddeacahiilikaaGreat
open Go Go.Am Go.Proofs
set_option maxRecDepth 100000
theorem z2b{n:Int}(h:0<=n)(h2:n<256):IntKind.u8.wrap n=n:=by
 unfold IntKind.wrap;simp[IntKind.bits,IntKind.signed];omega
def zbp(n:Nat):Bool:=decide (122<n) || !qcq n
theorem ev233(n:Nat):ev pg (.call (.fn 233 [] []) [.int .i32 n] [])=some { v:=.bool (zbp n),st:=⟨[],[]⟩ }:=by
 rw[qac,pg233]
 by_cases h:122<n
 .have h':(122:Int)<(n:Int):=by omega
  simp[ir233,zbp,h,h']
 .have h':¬((122:Int)<(n:Int)):=by omega
  have hc:=ev234 n
  have w8:=z2b (n:=(n:Int)) (by omega) (by omega)
  simp[ir233,zbp,h,h',w8,hc]
abbrev qfh(s:Txt):Bool:=s.all fun b=>qcq b.toNat
theorem zgl{f:UInt8->Bool}{l:Txt}{k:Nat}(hk:k<l.length):(l.drop k).all f=(f l[k]&&(l.drop (k+1)).all f):=by
 rw[jL hk];rfl
theorem zgx{t:Txt}{k:Nat}(hk:k<t.length)(h:t[k].toNat<128):Utf8.decode ⟨t.toArray⟩ k=(t[k].toNat,1):=by
 have hs:k<(⟨t.toArray⟩:ByteArray).size:=by show k<t.toArray.size;simpa using hk
 have hg:(⟨t.toArray⟩:ByteArray)[k]'hs=t[k]:=by show t.toArray[k]=t[k];simp
 have:=Go.decode_ascii ⟨t.toArray⟩ k hs (by rw[hg];exact h)
 rw[hg]at this
 exact this
theorem zca{t:Txt}{k:Nat}(hk:k<t.length)(h:128<=t[k].toNat):128<=(Utf8.decode ⟨t.toArray⟩ k).1:=by
 have hs:k<(⟨t.toArray⟩:ByteArray).size:=by show k<t.toArray.size;simpa using hk
 have hg:(⟨t.toArray⟩:ByteArray)[k]'hs=t[k]:=by show t.toArray[k]=t[k];simp
 exact(Go.decode_high ⟨t.toArray⟩ k hs (by rw[hg];exact h)).1
def zzk(t:Txt)(k:Nat)(st:St):Prop:=st.h=[⟨0,.sit t k⟩]/\st.s.length=21/\qao st.s 1=.fn 233 [] []/\qao st.s 2=.bool true/\qao st.s 10=.sit 0/\qfh t=qfh (t.drop k)
def zow(t:Txt)(r:R):Prop:=r.st.s.length=21/\((r.x=.exit 0/\qfh t=true)\/(r.x=.ret/\∃k:Nat,qao r.st.s 6=num k/\qfh t=false))
theorem zni(t:Txt)(st:St)(h0:zzk t 0 st):∃r,ev pg (.code (.going 1 L296_0) st)=some r/\zow t r:=by
 refine qbh (zzk t) t.length (zow t) h0 ?_ ?_
 .rintro k ⟨s,h⟩ hk ⟨rfl,hl,e1,e2,e10,he⟩
  simp only at hl e1 e2 e10
  have he2:qfh (t.drop k)=(qcq t[k].toNat&&qfh (t.drop (k+1))):=zgl hk
  rw[he2]at he
  rw[qag hl]
  by_cases hlow:t[k].toNat<128
  .have hd:=zgx hk hlow
   have hc:=ev233 t[k].toNat
   by_cases hw:qcq t[k].toNat=true
   .have hb:zbp t[k].toNat=false:=by
     have:¬122<t[k].toNat:=fun h=>by simp[qcq,qbn]at hw;omega
     simp[zbp,hw,this]
    rw[hw,Bool.true_and]at he
    rw[hb]at hc
    simp[L296_0,zzk,List.range,List.range.loop,e1,e2,e10,hk,hd,hc,he]
   .have hb:zbp t[k].toNat=true:=by simp[zbp,hw]
    have hw':qcq t[k].toNat=false:=by simpa using hw
    rw[hw',Bool.false_and]at he
    rw[hb]at hc
    simp[L296_0,zow,List.range,List.range.loop,e1,e2,e10,hk,hd,hc,he]
    exact⟨k,rfl⟩
  .have hd:=zca hk (by omega)
   have hc:=ev233 (Utf8.decode ⟨t.toArray⟩ k).1
   have hb:zbp (Utf8.decode ⟨t.toArray⟩ k).1=true:=by
    have:122<(Utf8.decode ⟨t.toArray⟩ k).1:=by omega
    simp[zbp,this]
   have hw':qcq t[k].toNat=false:=by simp[qcq,qbn];omega
   rw[hw',Bool.false_and]at he
   rw[hb]at hc
   simp[L296_0,zow,List.range,List.range.loop,e1,e2,e10,hk,hc,he]
   exact⟨k,rfl⟩
 .rintro⟨s,h⟩ ⟨rfl,hl,e1,e2,e10,he⟩
  simp only[List.drop_length]at hl e1 e2 e10 he
  have he':qfh t=true:=he
  rw[qag hl]
  simp[L296_0,zow,List.range,List.range.loop,e1,e2,e10,he']
theorem ev232(t:Txt):ev pg (.call (.fn 232 [] []) [.str t,.fn 233 [] []] [])=some { v:=.bool (!qfh t),st:=⟨[],[]⟩ }:=by
 have h204:∃i:Int,ev pg (.call (.fn 296 [] []) [.str t,.fn 233 [] [],.bool true] [])=some { v:=num i,st:=⟨[],[]⟩ }/\decide (0<=i)=!qfh t:=by
  rw[qac,pg296]
  simp[ir296,qaf]
  generalize hr:ev pg (.code (.going 1 L296_0) _)=o
  obtain⟨r,rfl,hl,hQ⟩:∃r,o=some r/\zow t r:=by rw[<-hr];exact zni t _ ⟨by simp,by simp,by simp,by simp,by simp,rfl⟩
  rcases hQ with⟨hx,hE⟩ | ⟨hx,k,h6,hE⟩
  .refine⟨-1,?_⟩
   simp[hx,hl,hE]
  .refine⟨k,?_⟩
   simp[hx,h6,hE]
 obtain⟨i,h204,hi⟩:=h204
 have h189:ev pg (.call (.fn 274 [] []) [.str t,.fn 233 [] []] [])=some { v:=num i,st:=⟨[],[]⟩ }:=by
  rw[qac,pg274]
  simp[ir274,h204]
 rw[qac,pg232,<-hi]
 simp[ir232,h189]
theorem qva:∀l:Txt,qcu false l=qfh l
 | []=>rfl
 | b :: r=>by
  rw[qcu,qva r]
  show _=(qcq b.toNat&&qfh r)
  cases qcq b.toNat<;>simp
theorem q5r(b:UInt8)(r:Txt):qsw (b :: r)=(qbn b.toNat&&qfh (b :: r)):=by
 show((if(true && !qbn b.toNat) || !qcq b.toNat then false else qcu false r)&&true)=(qbn b.toNat&&(qcq b.toNat&&qfh r))
 rw[qva]
 cases qbn b.toNat<;>cases qcq b.toNat<;>simp
def qdr(K:List Txt)(s:Txt):Int:=if qsw s=true then(if 24<s.length then 17 else if s∈K then 7 else 0)else 3
def qdi(c:Ct)(A n:Nat):List Txt:=(List.range n).map (qbl c A)
def zzh(c:Ct)(A n:Nat)(k:Nat)(st:St):Prop:=st.h=[⟨0,.box c.cells⟩]/\st.s.length=26/\qao st.s 1=num n/\qao st.s 2=.bptr 0 0/\qao st.s 5=.str (qbl c A n)/\qao st.s 6=num k/\∀j,j<k->qbl c A j≠qbl c A n
def zpv(c:Ct)(A n:Nat)(r:R):Prop:=r.st.s.length=26/\((r.x=.exit 0/\¬qbl c A n∈qdi c A n)\/(r.x=.ret/\qao r.st.s 4=num 7/\qbl c A n∈qdi c A n))
theorem zna{c:Ct}{A:Nat}(h:Mid c A)(n:Nat)(hn:n<qah c A)(st:St)(h0:zzh c A n 0 st):∃r,ev pg (.code (.going 1 L129_0) st)=some r/\zpv c A n r:=by
 have hcn:qah c A<=172:=by
  obtain⟨hA,h1,h2,h3,h4⟩:=h
  unfold qah
  omega
 refine qbh (zzh c A n) n (zpv c A n) h0 ?_ ?_
 .rintro k ⟨s,hh⟩ hk ⟨rfl,hl,e1,e2,e5,e6,he⟩
  simp only at hl e1 e2 e5 e6
  have hk':(k:Int)<n:=by omega
  have wk:=qab (n:=(k:Int)+1) (by omega) (by omega)
  have hc:=ev200 h k (by omega)
  rw[qag hl]
  by_cases ha:qbl c A k=qbl c A n
  .have hin:qbl c A n∈qdi c A n:=List.mem_map.2 ⟨k,List.mem_range.2 hk,ha⟩
   simp[L129_0,zpv,List.range,List.range.loop,e1,e2,e5,e6,hk',hc,ha,hin]
  .have ha':(qbl c A k==qbl c A n)=false:=by simpa using ha
   simp[L129_0,zzh,List.range,List.range.loop,e1,e2,e5,e6,hk',hc,ha',wk]
   intro j hj
   by_cases hjk:j=k
   .rw[hjk];exact ha
   .exact he j (by omega)
 .rintro⟨s,hh⟩ ⟨rfl,hl,e1,e2,e5,e6,he⟩
  simp only at hl e1 e2 e5 e6
  have hno:¬qbl c A n∈qdi c A n:=fun hin=>by
   obtain⟨j,hj,e⟩:=List.mem_map.1 hin
   exact he j (List.mem_range.1 hj) e
  rw[qag hl]
  simp[L129_0,zpv,List.range,List.range.loop,e1,e2,e5,e6,hno]
theorem ev129{c:Ct}{A:Nat}(h:Mid c A)(n:Nat)(hn:n<qah c A)(hlen:(qbl c A n).length<2 ^ 62):ev pg (.call (.fn 129 [] []) [c.v,num n] [])=some { v:=num (qdr (qdi c A n) (qbl c A n)),st:=⟨[],[]⟩ }:=by
 have hc:=ev200 h n hn
 have hw:=ev201 (qbl c A n) hlen
 rw[qac,pg129]
 by_cases h1:qsw (qbl c A n)=true
 .by_cases h2:24<(qbl c A n).length
  .have h2':(24:Int)<((qbl c A n).length:Int):=by omega
   simp[ir129,qdr,hc,hw,h1,h2,h2']
  .have h2':¬((24:Int)<((qbl c A n).length:Int)):=by omega
   simp[ir129,qdr,hc,hw,h1,h2,h2',qaf]
   generalize hr:ev pg (.code (.going 1 L129_0) _)=o
   obtain⟨r,rfl,hl,hQ⟩:∃r,o=some r/\zpv c A n r:=by
    rw[<-hr]
    exact zna h n hn _ ⟨by simp,by simp,by simp,by simp,by simp,by simp,fun j hj=>by omega⟩
   rcases hQ with⟨hx,hE⟩ | ⟨hx,h4,hE⟩
   .simp[hx,hl,hE]
   .simp[hx,h4,hE]
 .simp[ir129,qdr,hc,hw,h1]
abbrev zze(l:List (Txt×Int)):List (V×V):=l.map fun p=>(V.str p.1,num p.2)
theorem q2g:∀(l:List (Txt×Int)) (s:Txt),∃r,qma (zze l) (.str s)=some r/\r.isSome=decide (s∈l.map Prod.fst)
 | [],s=>⟨none,rfl,by simp⟩
 | (k,v) :: l,s=>by
  obtain⟨r,h1,h2⟩:=q2g l s
  by_cases h:s=k
  .subst h
   exact⟨some (num v),by simp[qma],by simp⟩
  .have h':(s==k)=false:=by simpa using h
   refine⟨r,?_,?_⟩
   .simp only[List.map_cons,qma,eqS,h']
    exact h1
   .rw[h2];simp[h]
theorem q1g:∀(l:List (Txt×Int)) (s:Txt) (v:Int),∃l',qxb (zze l) (.str s) (num v)=some (zze l')/\∀t,t∈l'.map Prod.fst<->(t∈l.map Prod.fst\/t=s)
 | [],s,v=>⟨[(s,v)],rfl,fun t=>by simp⟩
 | (k,w) :: l,s,v=>by
  obtain⟨l',h1,h2⟩:=q1g l s v
  by_cases h:s=k
  .subst h
   exact⟨(s,v) :: l,by simp[qxb],fun t=>by simp;intro e;exact .inl e⟩
  .have h':(s==k)=false:=by simpa using h
   refine⟨(k,w) :: l',?_,fun t=>?_⟩
   .simp only[List.map_cons,qxb,eqS,h']
    rw[h1];rfl
   .simp only[List.map_cons,List.mem_cons,h2 t]
    exact⟨fun h=>by rcases h with h | h | h<;>simp[h],fun h=>by rcases h with(h | h) | h<;>simp[h]⟩
abbrev zsy(c:Ct):List V:=[num c.act,.imm (c.inputs.map zai),.imm (c.signals.map Sg.row),qel c.plus,qel c.minus,.map 2,.fn 183 [.bptr 3 0] [],.fn 184 [.bptr 3 0] [],.fn 185 [.bptr 3 0] []]
abbrev hX(c:Ct)(l:List (Txt×Int))(t:H):H:=⟨0,.box c.cells⟩ :: ⟨0,.box c.cells⟩ :: ⟨0,.map (zze l)⟩ :: ⟨0,.box (zsy c)⟩ :: t
theorem ev186(c:Ct)(l:List (Txt×Int))(t:H)(hc:∀l,qdb (hX c l t))(s:Txt):∃l',ev pg (.call (.fn 186 [] []) [.bptr 3 0,.str s] (hX c l t))=some { v:=num (qdr (l.map Prod.fst) s),st:=⟨[],hX c l' t⟩ }/\((qdr (l.map Prod.fst) s=0/\∀q,q∈l'.map Prod.fst<->(q∈l.map Prod.fst\/q=s))\/(qdr (l.map Prod.fst) s≠0/\l'=l)):=by
 have h158:=ev232 s
 have hck:∀l,qaq (t.length+1+1+1+1) (hX c l t)=hX c l t:=fun l=>qeo (hc l)
 rw[qac,pg186]
 cases s with
 | nil =>
  refine⟨l,?_,.inr ⟨by simp[qdr,qsw],rfl⟩⟩
  simp[-qaq,ir186,qdr,qsw,hck]
 | cons b r =>
  have hwb:=q5r b r
  by_cases g1:b.toNat<97
  .have g1':(b.toNat:Int)<97:=by omega
   have hw:qsw (b :: r)=false:=by rw[hwb];simp[qbn];omega
   refine⟨l,?_,.inr ⟨by simp[qdr,hw],rfl⟩⟩
   simp[-qaq,ir186,qdr,hw,hck,g1']
  by_cases g2:122<b.toNat
  .have g1':¬((b.toNat:Int)<97):=by omega
   have g2':(122:Int)<(b.toNat:Int):=by omega
   have hw:qsw (b :: r)=false:=by rw[hwb];simp[qbn];omega
   refine⟨l,?_,.inr ⟨by simp[qdr,hw],rfl⟩⟩
   simp[-qaq,ir186,qdr,hw,hck,g1',g2']
  have g1':¬((b.toNat:Int)<97):=by omega
  have g2':¬((122:Int)<(b.toNat:Int)):=by omega
  have hsm:qbn b.toNat=true:=by simp[qbn];omega
  rw[hsm,Bool.true_and]at hwb
  generalize hwa:qfh (b :: r)=wa at *
  cases wa with
  | false =>
   refine⟨l,?_,.inr ⟨by simp[qdr,hwb],rfl⟩⟩
   simp[-qaq,ir186,qdr,hwb,hck,g1',g2',h158]
  | true =>
   by_cases g3:24<(b :: r).length
   .have g3':(24:Int)<(r.length:Int)+1:=by simp only[List.length_cons]at g3;omega
    refine⟨l,?_,.inr ⟨by rw[qdr,hwb,if_pos rfl,if_pos g3];omega,rfl⟩⟩
    have he:qdr (l.map Prod.fst) (b :: r)=17:=by rw[qdr,hwb,if_pos rfl,if_pos g3]
    rw[he]
    simp[-qaq,ir186,hck,g1',g2',h158,g3']
   .have g3':¬((24:Int)<(r.length:Int)+1):=by simp only[List.length_cons]at g3;omega
    obtain⟨q,hq1,hq2⟩:=q2g l (b :: r)
    by_cases hin:(b :: r)∈l.map Prod.fst
    .have he:qdr (l.map Prod.fst) (b :: r)=7:=by rw[qdr,hwb,if_pos rfl,if_neg g3,if_pos hin]
     rw[decide_eq_true hin]at hq2
     refine⟨l,?_,.inr ⟨by rw[he];omega,rfl⟩⟩
     rw[he]
     simp[-qaq,ir186,hck,g1',g2',h158,g3',hq1,hq2]
    .have he:qdr (l.map Prod.fst) (b :: r)=0:=by rw[qdr,hwb,if_pos rfl,if_neg g3,if_neg hin]
     rw[decide_eq_false hin]at hq2
     obtain⟨l',hu1,hu2⟩:=q1g l (b :: r) l.length
     refine⟨l',?_,.inl ⟨he,hu2⟩⟩
     rw[he]
     simp[-qaq,ir186,qaa,exT,qae,hck,g1',g2',h158,g3',hq1,hq2,hu1]
mutual
def Ex.anyV(f:Int->Bool):Ex->Bool
 | .mk o i l=>(decide (o=1)&&f i)||qhu f l
def qhu(f:Int->Bool):List Ex->Bool
 | []=>false
 | x :: l=>x.anyV f||qhu f l
end
theorem q0b(f:Int->Bool)(x:Ex):x.anyV f=((decide (x.op=1)&&f x.idx)||qhu f x.args):=by cases x;rw[Ex.anyV];rfl
theorem zbl{f:Int->Bool}{l:List Ex}{k:Nat}(hk:k<l.length):qhu f (l.drop k)=(l[k].anyV f||qhu f (l.drop (k+1))):=by
 rw[jL hk,qhu]
theorem qxr{n:Int}:∀{l:List Ex},qxq n l=0->∀y∈l,y.err n=0
 | [],_,y,hy=>nomatch hy
 | x :: l,h,y,hy=>by
  rw[qxq]at h
  split at h
  .rename_i hx
   rcases List.mem_cons.1 hy with rfl | hy
   .exact hx
   .exact qxr h y hy
  .rename_i hx;exact absurd h hx
theorem qmv{n:Int}{x:Ex}(h:x.err n=0):qbg x.op x.idx x.args.length n=0/\∀y∈x.args,y.err n=0:=by
 rw[q2b]at h
 split at h
 .rename_i h1;exact⟨h1,qxr h⟩
 .rename_i h1;exact absurd h h1
theorem qqv{o i n:Int}{k:Nat}(h:qbg o i k n=0)(ho:o=1):0<=i/\i<n:=by
 subst ho
 by_cases hk:k=0
 .have e:qbg 1 i k n=if i<0\/n<=i then 2 else 0:=by simp[qbg,hk]
  rw[e]at h
  by_cases hc:i<0\/n<=i
  .rw[if_pos hc]at h;omega
  .omega
 .have e:qbg 1 i k n=3:=by simp[qbg,hk]
  omega
structure Eac(n:Nat)(m:Int)(f:Int->Bool)(caps:List V)(base:Bool->H):Prop where
 len:∀b,(base b).length=n+2
 g0:∀b,(base b)[n]?=some ⟨0,.box [.fn 229 [] caps]⟩
 g1:∀b,(base b)[n+1]?=some ⟨0,.box [.fn 270 [] [.bptr n 0,.bptr (n+1) 0]]⟩
 call:∀b (i:Int) r,0<=i/\i<m->(∀b,qdb (base b++r))->ev pg (.call (.fn 229 [] caps) [num i] (base b++r))=some { v:=.tup [],st:=⟨[],base (b||f i)++r⟩ }
 caps:V.low 0 (.fn 229 [] caps)=false
structure Keep186(n:Nat)(x:Ex)(k:Nat)(st:List V):Prop where
 nn:qde st
 len:st.length=24
 t2:qao st 2=.bptr (n+1) 0
 t14:qao st 14=.imm (x.args.map Ex.row)
 t15:qao st 15=num x.args.length
 t16:qao st 16=num k
def z2h(n:Nat)(f:Int->Bool)(base:Bool->H)(x:Ex)(r:H)(b0:Bool)(k:Nat)(st:St):Prop:=∃b,st.h=base b++(r++[⟨0,.box x.cells⟩])/\Keep186 n x k st.s/\(b0||qhu f x.args)=(b||qhu f (x.args.drop k))
def zpz(f:Int->Bool)(base:Bool->H)(x:Ex)(r:H)(b0:Bool)(q:Am.R):Prop:=q.st.s.length=24/\q.x=.exit 0/\∃z,q.st.h=base (b0||qhu f x.args)++(r++z)
theorem zng{n0:Nat}{m:Int}{f:Int->Bool}{caps:List V}{base:Bool->H}(hY:Eac n0 m f caps base)(x:Ex)(hx:x.nodes<=256)(hv:∀y∈x.args,y.err m=0)(r:H)(hr:∀b,qdb (base b++r))
  (ih:∀y∈x.args,∀(b:Bool) (r:H),y.nodes<=256->y.err m=0->(∀b,qdb (base b++r))->ev pg (.call (.fn 270 [] [.bptr n0 0,.bptr (n0+1) 0]) [y.v] (base b++r))=some { v:=.tup [],st:=⟨[],base (b||y.anyV f)++r⟩ })
  (b0:Bool) (n:Nat) (hn:n=n0+2+(r.length+1)) (st:St) (h0:z2h n0 f base x r b0 0 st):∃q,ev pg (.code (.going n L270_0) st)=some q/\zpz f base x r b0 q:=by
 have hfew:=qfb hx
 have hrx:∀b,qdb (base b++(r++[⟨0,.box x.cells⟩])):=fun b=>by
  rw[<-List.append_assoc]
  exact qfq (hr b) (by simp)
 refine qbh (z2h n0 f base x r b0) x.args.length (zpz f base x r b0) h0 ?_ ?_
 .rintro k ⟨sl,h⟩ hk ⟨b,rfl,⟨hnn,hl,e2,e14,e15,e16⟩,hw⟩
  simp only at hl e2 e14 e15 e16
  have hnl:∀j,qao sl j ≠ .nils:=qcd hnn
  have hk':(k:Int)<x.args.length:=by omega
  have wk:=qab (n:=(k:Int)+1) (by omega) (by omega)
  have hmem:=jH hk
  have hry:∀b,qdb (base b++(r++[⟨0,.box x.cells⟩,⟨0,.arr 0 []⟩,⟨0,.box x.args[k].cells⟩])):=fun b=>by
   have e:base b++(r++[⟨0,.box x.cells⟩,⟨0,.arr 0 []⟩,⟨0,.box x.args[k].cells⟩])=(base b++(r++[⟨0,.box x.cells⟩]))++[⟨0,.arr 0 []⟩,⟨0,.box x.args[k].cells⟩]:=by simp
   rw[e]
   exact qfq (hrx b) (by simp[qcf])
  have hc:=ih x.args[k] hmem b _ (qex hx hmem) (hv _ hmem) hry
  have e0:∀b,base b++(r++[⟨0,.box x.cells⟩,⟨0,.arr 0 []⟩,⟨0,.box x.args[k].cells⟩])=(base b++(r++[⟨0,.box x.cells⟩]))++[⟨0,.arr 0 []⟩,⟨0,.box x.args[k].cells⟩]:=fun b=>by simp
  rw[e0,e0]at hc
  rw[zbl hk,<-Bool.or_assoc]at hw
  generalize hs2:(b||x.args[k].anyV f)=b2 at *
  have hl0:(base b++(r++[⟨0,.box x.cells⟩]):H).length=n:=by simp[hY.len,hn]
  have hl2:(base b2++(r++[⟨0,.box x.cells⟩]):H).length=n:=by simp[hY.len,hn]
  have g1:=qgp (r++[⟨0,.box x.cells⟩]) (hY.g1 b)
  have hc2:=hrx b2
  have hcut:=qvl hc2
  rw[hl2]at hcut
  generalize hG:base b++(r++[⟨0,.box x.cells⟩])=G at *
  generalize hG2:base b2++(r++[⟨0,.box x.cells⟩])=G2 at *
  have g1':∀z,(G++z)[n0+1]?=some ⟨0,.box [.fn 270 [] [.bptr n0 0,.bptr (n0+1) 0]]⟩:=fun z=>qgp z g1
  have t1:=zzg hl0
  rw[qag hl]
  simp[-qbc,L270_0,List.range,List.range.loop,e2,e14,e15,e16,hk,hk',wk,hl0,t1,g1',hc,hcut]
  have h9:n0+1<n:=by omega
  exact⟨b2,hG2.symm,⟨by simp[qde,hnl],rfl,by simp[h9],rfl,rfl,rfl⟩,hw⟩
 .rintro⟨sl,h⟩ ⟨b,rfl,⟨hnn,hl,e2,e14,e15,e16⟩,hw⟩
  simp only[List.drop_length]at hl e2 e14 e15 e16 hw
  rw[qhu,Bool.or_false]at hw
  rw[qag hl]
  simp[L270_0,zpz,List.range,List.range.loop,e2,e14,e15,e16,hw]
theorem ev270{n0:Nat}{m:Int}{f:Int->Bool}{caps:List V}{base:Bool->H}(hY:Eac n0 m f caps base):∀(x:Ex) (b:Bool) (r:H),x.nodes<=256->x.err m=0->(∀b,qdb (base b++r))->ev pg (.call (.fn 270 [] [.bptr n0 0,.bptr (n0+1) 0]) [x.v] (base b++r))=some { v:=.tup [],st:=⟨[],base (b||x.anyV f)++r⟩ }:=by
 refine Ex.ind fun x ih b r hx hv hr=>?_
 obtain⟨hv1,hv2⟩:=qmv hv
 have hrx:∀b,qdb (base b++(r++[⟨0,.box x.cells⟩])):=fun b=>by
  rw[<-List.append_assoc]
  exact qfq (hr b) (by simp)
 have hloop:=fun b1=>zng hY x hx hv2 r hr ih b1 (n0+2+(r.length+1)) rfl
 rw[q0b]
 have hl0:(base b++r:H).length=n0+2+r.length:=by simp[hY.len]
 have g0:=qgp r (hY.g0 b)
 have gx:∀b,(base b++(r++[⟨0,.box x.cells⟩]))[n0+2+r.length]?=some ⟨0,.box x.cells⟩:=fun b=>by
  have:=z2l (h:=base b++r) (n:=n0+2+r.length) (by simp[hY.len]) ⟨0,.box x.cells⟩
  rwa [List.append_assoc]at this
 have g0':=qgp [⟨0,.box x.cells⟩] g0
 rw[List.append_assoc]at g0'
 have hcut:∀b z,qaq (n0+2+r.length) (base b++(r++z))=base b++r:=fun b z=>by
  have:=qgh (hr b) z
  rw[List.append_assoc]at this
  rw[show(base b++r:H).length=n0+2+r.length by simp[hY.len]]at this
  exact this
 rw[qac,pg270]
 by_cases ho:x.op=1
 .have hcl:=hY.call b x.idx (r++[⟨0,.box x.cells⟩]) (qqv hv1 ho) hrx
  have e:(b||(decide (x.op=1)&&f x.idx||qhu f x.args))=((b||f x.idx)||qhu f x.args):=by simp[ho,Bool.or_assoc]
  rw[e]
  have hloop:=hloop (b||f x.idx)
  generalize (b||f x.idx)=b1 at *
  have hcp:=hY.caps
  have hob:(x.op==1)=true:=by simpa using ho
  simp at hcp
  simp[-qaq,ir270,hY.len,g0',hob,hcp,hcl,qaf]
  generalize hq:ev pg (.code (.going _ L270_0) _)=o
  obtain⟨q,rfl,hl,hx,z,hh⟩:∃q,o=some q/\zpz f base x r b1 q:=by
   rw[<-hq]
   refine hloop _ ⟨b1,rfl,⟨?_,?_,?_,?_,?_,?_⟩,rfl⟩
   all_goals simp[qde]
  simp[-qaq,hx,hh,hcut]
 .have e:(b||(decide (x.op=1)&&f x.idx||qhu f x.args))=(b||qhu f x.args):=by simp[ho]
  rw[e]
  have hob:(x.op==1)=false:=by simpa using ho
  simp[-qaq,ir270,hY.len,hob,qaf]
  generalize hq:ev pg (.code (.going _ L270_0) _)=o
  obtain⟨q,rfl,hl,hx,z,hh⟩:∃q,o=some q/\zpz f base x r b q:=by
   rw[<-hq]
   refine hloop b _ ⟨b,rfl,⟨?_,?_,?_,?_,?_,?_⟩,rfl⟩
   all_goals simp[qde]
  simp[-qaq,hx,hh,hcut]
end Go.Proofs.YtddeacahiilikaaGreat
