/- Names, by the program: the bytes of a text, rune after rune. Names of lines: errors, by the reference and by the program. Variables of an expression: by the program, one after the other; by the reference. -/
import Derived.Test.YtlhciedghbmjjaaGreatCt3
set_option linter.all false
namespace Go.Proofs.YtlhciedghbmjjaaGreat
open Go Go.Am Go.Proofs
set_option maxRecDepth 100000
theorem jcx{n:Int}(h:0<=n)(h2:n<256):IntKind.u8.wrap n=n:=by
 unfold IntKind.wrap;simp[IntKind.bits,IntKind.signed];omega
def zim(n:Nat):Bool:=decide (122<n) || !qdh n
theorem ev152(n:Nat):ev pg (.call (.fn 152 [] []) [.int .i32 n] [])=some { v:=.bool (zim n),st:=⟨[],[]⟩ }:=by
 rw[qac,pg152]
 by_cases h:122<n
 .have h':(122:Int)<(n:Int):=by omega
  simp[ir152,zim,h,h']
 .have h':¬((122:Int)<(n:Int)):=by omega
  have hc:=ev153 n
  have w8:=jcx (n:=(n:Int)) (by omega) (by omega)
  simp[ir152,zim,h,h',w8,hc]
abbrev qfx(s:Txt):Bool:=s.all fun b=>qdh b.toNat
theorem zsm{f:UInt8->Bool}{l:Txt}{k:Nat}(hk:k<l.length):(l.drop k).all f=(f l[k]&&(l.drop (k+1)).all f):=by
 rw[jL hk];rfl
theorem zor{t:Txt}{k:Nat}(hk:k<t.length)(h:t[k].toNat<128):Utf8.decode ⟨t.toArray⟩ k=(t[k].toNat,1):=by
 have hs:k<(⟨t.toArray⟩:ByteArray).size:=by show k<t.toArray.size;simpa using hk
 have hg:(⟨t.toArray⟩:ByteArray)[k]'hs=t[k]:=by show t.toArray[k]=t[k];simp
 have:=Go.decode_ascii ⟨t.toArray⟩ k hs (by rw[hg];exact h)
 rw[hg]at this
 exact this
theorem zjk{t:Txt}{k:Nat}(hk:k<t.length)(h:128<=t[k].toNat):128<=(Utf8.decode ⟨t.toArray⟩ k).1:=by
 have hs:k<(⟨t.toArray⟩:ByteArray).size:=by show k<t.toArray.size;simpa using hk
 have hg:(⟨t.toArray⟩:ByteArray)[k]'hs=t[k]:=by show t.toArray[k]=t[k];simp
 exact(Go.decode_high ⟨t.toArray⟩ k hs (by rw[hg];exact h)).1
def jea(t:Txt)(k:Nat)(st:St):Prop:=st.h=[⟨0,.sit t k⟩]/\st.s.length=21/\qat st.s 1=.fn 152 [] []/\qat st.s 2=.bool true/\qat st.s 10=.sit 0/\qfx t=qfx (t.drop k)
def zve(t:Txt)(r:R):Prop:=r.st.s.length=21/\((r.x=.exit 0/\qfx t=true)\/(r.x=.ret/\∃k:Nat,qat r.st.s 6=num k/\qfx t=false))
theorem zuo(t:Txt)(st:St)(h0:jea t 0 st):∃r,ev pg (.code (.going 1 L187_0) st)=some r/\zve t r:=by
 refine qbq (jea t) t.length (zve t) h0 ?_ ?_
 .rintro k ⟨s,h⟩ hk ⟨rfl,hl,e1,e2,e10,he⟩
  simp only at hl e1 e2 e10
  have he2:qfx (t.drop k)=(qdh t[k].toNat&&qfx (t.drop (k+1))):=zsm hk
  rw[he2]at he
  rw[qaj hl]
  by_cases hlow:t[k].toNat<128
  .have hd:=zor hk hlow
   have hc:=ev152 t[k].toNat
   by_cases hw:qdh t[k].toNat=true
   .have hb:zim t[k].toNat=false:=by
     have:¬122<t[k].toNat:=fun h=>by simp[qdh,qbv]at hw;omega
     simp[zim,hw,this]
    rw[hw,Bool.true_and]at he
    rw[hb]at hc
    simp[L187_0,jea,List.range,List.range.loop,e1,e2,e10,hk,hd,hc,he]
   .have hb:zim t[k].toNat=true:=by simp[zim,hw]
    have hw':qdh t[k].toNat=false:=by simpa using hw
    rw[hw',Bool.false_and]at he
    rw[hb]at hc
    simp[L187_0,zve,List.range,List.range.loop,e1,e2,e10,hk,hd,hc,he]
    exact⟨k,rfl⟩
  .have hd:=zjk hk (by omega)
   have hc:=ev152 (Utf8.decode ⟨t.toArray⟩ k).1
   have hb:zim (Utf8.decode ⟨t.toArray⟩ k).1=true:=by
    have:122<(Utf8.decode ⟨t.toArray⟩ k).1:=by omega
    simp[zim,this]
   have hw':qdh t[k].toNat=false:=by simp[qdh,qbv];omega
   rw[hw',Bool.false_and]at he
   rw[hb]at hc
   simp[L187_0,zve,List.range,List.range.loop,e1,e2,e10,hk,hc,he]
   exact⟨k,rfl⟩
 .rintro⟨s,h⟩ ⟨rfl,hl,e1,e2,e10,he⟩
  simp only[List.drop_length]at hl e1 e2 e10 he
  have he':qfx t=true:=he
  rw[qaj hl]
  simp[L187_0,zve,List.range,List.range.loop,e1,e2,e10,he']
theorem ev151(t:Txt):ev pg (.call (.fn 151 [] []) [.str t,.fn 152 [] []] [])=some { v:=.bool (!qfx t),st:=⟨[],[]⟩ }:=by
 have h204:∃i:Int,ev pg (.call (.fn 187 [] []) [.str t,.fn 152 [] [],.bool true] [])=some { v:=num i,st:=⟨[],[]⟩ }/\decide (0<=i)=!qfx t:=by
  rw[qac,pg187]
  simp[ir187,qaf]
  generalize hr:ev pg (.code (.going 1 L187_0) _)=o
  obtain⟨r,rfl,hl,hQ⟩:∃r,o=some r/\zve t r:=by rw[<-hr];exact zuo t _ ⟨by simp,by simp,by simp,by simp,by simp,rfl⟩
  rcases hQ with⟨hx,hE⟩ | ⟨hx,k,h6,hE⟩
  .refine⟨-1,?_⟩
   simp[hx,hl,hE]
  .refine⟨k,?_⟩
   simp[hx,h6,hE]
 obtain⟨i,h204,hi⟩:=h204
 have h189:ev pg (.call (.fn 177 [] []) [.str t,.fn 152 [] []] [])=some { v:=num i,st:=⟨[],[]⟩ }:=by
  rw[qac,pg177]
  simp[ir177,h204]
 rw[qac,pg151,<-hi]
 simp[ir151,h189]
theorem qxw:∀l:Txt,qdl false l=qfx l
 | []=>rfl
 | b :: r=>by
  rw[qdl,qxw r]
  show _=(qdh b.toNat&&qfx r)
  cases qdh b.toNat<;>simp
theorem zac(b:UInt8)(r:Txt):quj (b :: r)=(qbv b.toNat&&qfx (b :: r)):=by
 show((if(true && !qbv b.toNat) || !qdh b.toNat then false else qdl false r)&&true)=(qbv b.toNat&&(qdh b.toNat&&qfx r))
 rw[qxw]
 cases qbv b.toNat<;>cases qdh b.toNat<;>simp
def qee(K:List Txt)(s:Txt):Int:=if quj s=true then(if 24<s.length then 17 else if s∈K then 7 else 0)else 3
def qea(c:Ct)(A n:Nat):List Txt:=(List.range n).map (qbs c A)
def jbz(c:Ct)(A n:Nat)(k:Nat)(st:St):Prop:=st.h=[⟨0,.box c.cells⟩]/\st.s.length=26/\qat st.s 1=num n/\qat st.s 2=.bptr 0 0/\qat st.s 5=.str (qbs c A n)/\qat st.s 6=num k/\∀j,j<k->qbs c A j≠qbs c A n
def zvz(c:Ct)(A n:Nat)(r:R):Prop:=r.st.s.length=26/\((r.x=.exit 0/\¬qbs c A n∈qea c A n)\/(r.x=.ret/\qat r.st.s 4=num 7/\qbs c A n∈qea c A n))
theorem znf{c:Ct}{A:Nat}(h:Mid c A)(n:Nat)(hn:n<qak c A)(st:St)(h0:jbz c A n 0 st):∃r,ev pg (.code (.going 1 L82_0) st)=some r/\zvz c A n r:=by
 have hcn:qak c A<=172:=by
  obtain⟨hA,h1,h2,h3,h4⟩:=h
  unfold qak
  omega
 refine qbq (jbz c A n) n (zvz c A n) h0 ?_ ?_
 .rintro k ⟨s,hh⟩ hk ⟨rfl,hl,e1,e2,e5,e6,he⟩
  simp only at hl e1 e2 e5 e6
  have hk':(k:Int)<n:=by omega
  have wk:=qab (n:=(k:Int)+1) (by omega) (by omega)
  have hc:=ev116 h k (by omega)
  rw[qaj hl]
  by_cases ha:qbs c A k=qbs c A n
  .have hin:qbs c A n∈qea c A n:=List.mem_map.2 ⟨k,List.mem_range.2 hk,ha⟩
   simp[L82_0,zvz,List.range,List.range.loop,e1,e2,e5,e6,hk',hc,ha,hin]
  .have ha':(qbs c A k==qbs c A n)=false:=by simpa using ha
   simp[L82_0,jbz,List.range,List.range.loop,e1,e2,e5,e6,hk',hc,ha',wk]
   intro j hj
   by_cases hjk:j=k
   .rw[hjk];exact ha
   .exact he j (by omega)
 .rintro⟨s,hh⟩ ⟨rfl,hl,e1,e2,e5,e6,he⟩
  simp only at hl e1 e2 e5 e6
  have hno:¬qbs c A n∈qea c A n:=fun hin=>by
   obtain⟨j,hj,e⟩:=List.mem_map.1 hin
   exact he j (List.mem_range.1 hj) e
  rw[qaj hl]
  simp[L82_0,zvz,List.range,List.range.loop,e1,e2,e5,e6,hno]
theorem ev82{c:Ct}{A:Nat}(h:Mid c A)(n:Nat)(hn:n<qak c A)(hlen:(qbs c A n).length<2 ^ 62):ev pg (.call (.fn 82 [] []) [c.v,num n] [])=some { v:=num (qee (qea c A n) (qbs c A n)),st:=⟨[],[]⟩ }:=by
 have hc:=ev116 h n hn
 have hw:=ev117 (qbs c A n) hlen
 rw[qac,pg82]
 by_cases h1:quj (qbs c A n)=true
 .by_cases h2:24<(qbs c A n).length
  .have h2':(24:Int)<((qbs c A n).length:Int):=by omega
   simp[ir82,qee,hc,hw,h1,h2,h2']
  .have h2':¬((24:Int)<((qbs c A n).length:Int)):=by omega
   simp[ir82,qee,hc,hw,h1,h2,h2',qaf]
   generalize hr:ev pg (.code (.going 1 L82_0) _)=o
   obtain⟨r,rfl,hl,hQ⟩:∃r,o=some r/\zvz c A n r:=by
    rw[<-hr]
    exact znf h n hn _ ⟨by simp,by simp,by simp,by simp,by simp,by simp,fun j hj=>by omega⟩
   rcases hQ with⟨hx,hE⟩ | ⟨hx,h4,hE⟩
   .simp[hx,hl,hE]
   .simp[hx,h4,hE]
 .simp[ir82,qee,hc,hw,h1]
abbrev z4x(l:List (Txt×Int)):List (V×V):=l.map fun p=>(V.str p.1,num p.2)
theorem q7t:∀(l:List (Txt×Int)) (s:Txt),∃r,qly (z4x l) (.str s)=some r/\r.isSome=decide (s∈l.map Prod.fst)
 | [],s=>⟨none,rfl,by simp⟩
 | (k,v) :: l,s=>by
  obtain⟨r,h1,h2⟩:=q7t l s
  by_cases h:s=k
  .subst h
   exact⟨some (num v),by simp[qly],by simp⟩
  .have h':(s==k)=false:=by simpa using h
   refine⟨r,?_,?_⟩
   .simp only[List.map_cons,qly,eqS,h']
    exact h1
   .rw[h2];simp[h]
theorem q5h:∀(l:List (Txt×Int)) (s:Txt) (v:Int),∃l',qwd (z4x l) (.str s) (num v)=some (z4x l')/\∀t,t∈l'.map Prod.fst<->(t∈l.map Prod.fst\/t=s)
 | [],s,v=>⟨[(s,v)],rfl,fun t=>by simp⟩
 | (k,w) :: l,s,v=>by
  obtain⟨l',h1,h2⟩:=q5h l s v
  by_cases h:s=k
  .subst h
   exact⟨(s,v) :: l,by simp[qwd],fun t=>by simp;intro e;exact .inl e⟩
  .have h':(s==k)=false:=by simpa using h
   refine⟨(k,w) :: l',?_,fun t=>?_⟩
   .simp only[List.map_cons,qwd,eqS,h']
    rw[h1];rfl
   .simp only[List.map_cons,List.mem_cons,h2 t]
    exact⟨fun h=>by rcases h with h | h | h<;>simp[h],fun h=>by rcases h with(h | h) | h<;>simp[h]⟩
abbrev zwr(c:Ct):List V:=[num c.act,.imm (c.inputs.map q3t),.imm (c.signals.map Sg.row),qbx c.plus,qbx c.minus,.map 2,.fn 107 [.bptr 3 0] [],.fn 108 [.bptr 3 0] [],.fn 109 [.bptr 3 0] []]
abbrev hX(c:Ct)(l:List (Txt×Int))(t:H):H:=⟨0,.box c.cells⟩ :: ⟨0,.box c.cells⟩ :: ⟨0,.map (z4x l)⟩ :: ⟨0,.box (zwr c)⟩ :: t
theorem ev111(c:Ct)(l:List (Txt×Int))(t:H)(hc:∀l,qck (hX c l t))(s:Txt):∃l',ev pg (.call (.fn 111 [] []) [.bptr 3 0,.str s] (hX c l t))=some { v:=num (qee (l.map Prod.fst) s),st:=⟨[],hX c l' t⟩ }/\((qee (l.map Prod.fst) s=0/\∀q,q∈l'.map Prod.fst<->(q∈l.map Prod.fst\/q=s))\/(qee (l.map Prod.fst) s≠0/\l'=l)):=by
 have h158:=ev151 s
 have hck:∀l,qaq (t.length+1+1+1+1) (hX c l t)=hX c l t:=fun l=>qeb (hc l)
 rw[qac,pg111]
 cases s with
 | nil =>
  refine⟨l,?_,.inr ⟨by simp[qee,quj],rfl⟩⟩
  simp[-qaq,ir111,qee,quj,hck]
 | cons b r =>
  have hwb:=zac b r
  by_cases g1:b.toNat<97
  .have g1':(b.toNat:Int)<97:=by omega
   have hw:quj (b :: r)=false:=by rw[hwb];simp[qbv];omega
   refine⟨l,?_,.inr ⟨by simp[qee,hw],rfl⟩⟩
   simp[-qaq,ir111,qee,hw,hck,g1']
  by_cases g2:122<b.toNat
  .have g1':¬((b.toNat:Int)<97):=by omega
   have g2':(122:Int)<(b.toNat:Int):=by omega
   have hw:quj (b :: r)=false:=by rw[hwb];simp[qbv];omega
   refine⟨l,?_,.inr ⟨by simp[qee,hw],rfl⟩⟩
   simp[-qaq,ir111,qee,hw,hck,g1',g2']
  have g1':¬((b.toNat:Int)<97):=by omega
  have g2':¬((122:Int)<(b.toNat:Int)):=by omega
  have hsm:qbv b.toNat=true:=by simp[qbv];omega
  rw[hsm,Bool.true_and]at hwb
  generalize hwa:qfx (b :: r)=wa at *
  cases wa with
  | false =>
   refine⟨l,?_,.inr ⟨by simp[qee,hwb],rfl⟩⟩
   simp[-qaq,ir111,qee,hwb,hck,g1',g2',h158]
  | true =>
   by_cases g3:24<(b :: r).length
   .have g3':(24:Int)<(r.length:Int)+1:=by simp only[List.length_cons]at g3;omega
    refine⟨l,?_,.inr ⟨by rw[qee,hwb,if_pos rfl,if_pos g3];omega,rfl⟩⟩
    have he:qee (l.map Prod.fst) (b :: r)=17:=by rw[qee,hwb,if_pos rfl,if_pos g3]
    rw[he]
    simp[-qaq,ir111,hck,g1',g2',h158,g3']
   .have g3':¬((24:Int)<(r.length:Int)+1):=by simp only[List.length_cons]at g3;omega
    obtain⟨q,hq1,hq2⟩:=q7t l (b :: r)
    by_cases hin:(b :: r)∈l.map Prod.fst
    .have he:qee (l.map Prod.fst) (b :: r)=7:=by rw[qee,hwb,if_pos rfl,if_neg g3,if_pos hin]
     rw[decide_eq_true hin]at hq2
     refine⟨l,?_,.inr ⟨by rw[he];omega,rfl⟩⟩
     rw[he]
     simp[-qaq,ir111,hck,g1',g2',h158,g3',hq1,hq2]
    .have he:qee (l.map Prod.fst) (b :: r)=0:=by rw[qee,hwb,if_pos rfl,if_neg g3,if_neg hin]
     rw[decide_eq_false hin]at hq2
     obtain⟨l',hu1,hu2⟩:=q5h l (b :: r) l.length
     refine⟨l',?_,.inl ⟨he,hu2⟩⟩
     rw[he]
     simp[-qaq,ir111,qaa,exT,qae,hck,g1',g2',h158,g3',hq1,hq2,hu1]
mutual
def Ex.anyV(f:Int->Bool):Ex->Bool
 | .mk o i l=>(decide (o=1)&&f i)||qiy f l
def qiy(f:Int->Bool):List Ex->Bool
 | []=>false
 | x :: l=>x.anyV f||qiy f l
end
theorem q5q(f:Int->Bool)(x:Ex):x.anyV f=((decide (x.op=1)&&f x.idx)||qiy f x.args):=by cases x;rw[Ex.anyV];rfl
theorem zhh{f:Int->Bool}{l:List Ex}{k:Nat}(hk:k<l.length):qiy f (l.drop k)=(l[k].anyV f||qiy f (l.drop (k+1))):=by
 rw[jL hk,qiy]
theorem q3d{n:Int}:∀{l:List Ex},q3f n l=0->∀y∈l,y.err n=0
 | [],_,y,hy=>nomatch hy
 | x :: l,h,y,hy=>by
  rw[q3f]at h
  split at h
  .rename_i hx
   rcases List.mem_cons.1 hy with rfl | hy
   .exact hx
   .exact q3d h y hy
  .rename_i hx;exact absurd h hx
theorem qpi{n:Int}{x:Ex}(h:x.err n=0):qbm x.op x.idx x.args.length n=0/\∀y∈x.args,y.err n=0:=by
 rw[q7i]at h
 split at h
 .rename_i h1;exact⟨h1,q3d h⟩
 .rename_i h1;exact absurd h h1
theorem qso{o i n:Int}{k:Nat}(h:qbm o i k n=0)(ho:o=1):0<=i/\i<n:=by
 subst ho
 by_cases hk:k=0
 .have e:qbm 1 i k n=if i<0\/n<=i then 2 else 0:=by simp[qbm,hk]
  rw[e]at h
  by_cases hc:i<0\/n<=i
  .rw[if_pos hc]at h;omega
  .omega
 .have e:qbm 1 i k n=3:=by simp[qbm,hk]
  omega
structure Eac(n:Nat)(m:Int)(f:Int->Bool)(caps:List V)(base:Bool->H):Prop where
 len:∀b,(base b).length=n+2
 g0:∀b,(base b)[n]?=some ⟨0,.box [.fn 148 [] caps]⟩
 g1:∀b,(base b)[n+1]?=some ⟨0,.box [.fn 173 [] [.bptr n 0,.bptr (n+1) 0]]⟩
 call:∀b (i:Int) r,0<=i/\i<m->(∀b,qck (base b++r))->ev pg (.call (.fn 148 [] caps) [num i] (base b++r))=some { v:=.tup [],st:=⟨[],base (b||f i)++r⟩ }
 caps:V.low 0 (.fn 148 [] caps)=false
structure Keep186(n:Nat)(x:Ex)(k:Nat)(st:List V):Prop where
 nn:qdv st
 len:st.length=24
 t2:qat st 2=.bptr (n+1) 0
 t14:qat st 14=.imm (x.args.map Ex.row)
 t15:qat st 15=num x.args.length
 t16:qat st 16=num k
def jev(n:Nat)(f:Int->Bool)(base:Bool->H)(x:Ex)(r:H)(b0:Bool)(k:Nat)(st:St):Prop:=∃b,st.h=base b++(r++[⟨0,.box x.cells⟩])/\Keep186 n x k st.s/\(b0||qiy f x.args)=(b||qiy f (x.args.drop k))
def zwb(f:Int->Bool)(base:Bool->H)(x:Ex)(r:H)(b0:Bool)(q:Am.R):Prop:=q.st.s.length=24/\q.x=.exit 0/\∃z,q.st.h=base (b0||qiy f x.args)++(r++z)
theorem zsp{n0:Nat}{m:Int}{f:Int->Bool}{caps:List V}{base:Bool->H}(hY:Eac n0 m f caps base)(x:Ex)(hx:x.nodes<=256)(hv:∀y∈x.args,y.err m=0)(r:H)(hr:∀b,qck (base b++r))
  (ih:∀y∈x.args,∀(b:Bool) (r:H),y.nodes<=256->y.err m=0->(∀b,qck (base b++r))->ev pg (.call (.fn 173 [] [.bptr n0 0,.bptr (n0+1) 0]) [y.v] (base b++r))=some { v:=.tup [],st:=⟨[],base (b||y.anyV f)++r⟩ })
  (b0:Bool) (n:Nat) (hn:n=n0+2+(r.length+1)) (st:St) (h0:jev n0 f base x r b0 0 st):∃q,ev pg (.code (.going n L173_0) st)=some q/\zwb f base x r b0 q:=by
 have hfew:=qfv hx
 have hrx:∀b,qck (base b++(r++[⟨0,.box x.cells⟩])):=fun b=>by
  rw[<-List.append_assoc]
  exact qcl (hr b) (by simp)
 refine qbq (jev n0 f base x r b0) x.args.length (zwb f base x r b0) h0 ?_ ?_
 .rintro k ⟨sl,h⟩ hk ⟨b,rfl,⟨hnn,hl,e2,e14,e15,e16⟩,hw⟩
  simp only at hl e2 e14 e15 e16
  have hnl:∀j,qat sl j ≠ .nils:=qcp hnn
  have hk':(k:Int)<x.args.length:=by omega
  have wk:=qab (n:=(k:Int)+1) (by omega) (by omega)
  have hmem:=jH hk
  have hry:∀b,qck (base b++(r++[⟨0,.box x.cells⟩,⟨0,.arr 0 []⟩,⟨0,.box x.args[k].cells⟩])):=fun b=>by
   have e:base b++(r++[⟨0,.box x.cells⟩,⟨0,.arr 0 []⟩,⟨0,.box x.args[k].cells⟩])=(base b++(r++[⟨0,.box x.cells⟩]))++[⟨0,.arr 0 []⟩,⟨0,.box x.args[k].cells⟩]:=by simp
   rw[e]
   exact qcl (hrx b) (by simp[qbg])
  have hc:=ih x.args[k] hmem b _ (qfn hx hmem) (hv _ hmem) hry
  have e0:∀b,base b++(r++[⟨0,.box x.cells⟩,⟨0,.arr 0 []⟩,⟨0,.box x.args[k].cells⟩])=(base b++(r++[⟨0,.box x.cells⟩]))++[⟨0,.arr 0 []⟩,⟨0,.box x.args[k].cells⟩]:=fun b=>by simp
  rw[e0,e0]at hc
  rw[zhh hk,<-Bool.or_assoc]at hw
  generalize hs2:(b||x.args[k].anyV f)=b2 at *
  have hl0:(base b++(r++[⟨0,.box x.cells⟩]):H).length=n:=by simp[hY.len,hn]
  have hl2:(base b2++(r++[⟨0,.box x.cells⟩]):H).length=n:=by simp[hY.len,hn]
  have g1:=qht (r++[⟨0,.box x.cells⟩]) (hY.g1 b)
  have hc2:=hrx b2
  have hcut:=qyu hc2
  rw[hl2]at hcut
  generalize hG:base b++(r++[⟨0,.box x.cells⟩])=G at *
  generalize hG2:base b2++(r++[⟨0,.box x.cells⟩])=G2 at *
  have g1':∀z,(G++z)[n0+1]?=some ⟨0,.box [.fn 173 [] [.bptr n0 0,.bptr (n0+1) 0]]⟩:=fun z=>qht z g1
  have t1:=z2o hl0
  rw[qaj hl]
  simp[-qav,L173_0,List.range,List.range.loop,e2,e14,e15,e16,hk,hk',wk,hl0,t1,g1',hc,hcut]
  have h9:n0+1<n:=by omega
  exact⟨b2,hG2.symm,⟨by simp[qdv,hnl],rfl,by simp[h9],rfl,rfl,rfl⟩,hw⟩
 .rintro⟨sl,h⟩ ⟨b,rfl,⟨hnn,hl,e2,e14,e15,e16⟩,hw⟩
  simp only[List.drop_length]at hl e2 e14 e15 e16 hw
  rw[qiy,Bool.or_false]at hw
  rw[qaj hl]
  simp[L173_0,zwb,List.range,List.range.loop,e2,e14,e15,e16,hw]
theorem ev173{n0:Nat}{m:Int}{f:Int->Bool}{caps:List V}{base:Bool->H}(hY:Eac n0 m f caps base):∀(x:Ex) (b:Bool) (r:H),x.nodes<=256->x.err m=0->(∀b,qck (base b++r))->ev pg (.call (.fn 173 [] [.bptr n0 0,.bptr (n0+1) 0]) [x.v] (base b++r))=some { v:=.tup [],st:=⟨[],base (b||x.anyV f)++r⟩ }:=by
 refine Ex.ind fun x ih b r hx hv hr=>?_
 obtain⟨hv1,hv2⟩:=qpi hv
 have hrx:∀b,qck (base b++(r++[⟨0,.box x.cells⟩])):=fun b=>by
  rw[<-List.append_assoc]
  exact qcl (hr b) (by simp)
 have hloop:=fun b1=>zsp hY x hx hv2 r hr ih b1 (n0+2+(r.length+1)) rfl
 rw[q5q]
 have hl0:(base b++r:H).length=n0+2+r.length:=by simp[hY.len]
 have g0:=qht r (hY.g0 b)
 have gx:∀b,(base b++(r++[⟨0,.box x.cells⟩]))[n0+2+r.length]?=some ⟨0,.box x.cells⟩:=fun b=>by
  have:=jek (h:=base b++r) (n:=n0+2+r.length) (by simp[hY.len]) ⟨0,.box x.cells⟩
  rwa [List.append_assoc]at this
 have g0':=qht [⟨0,.box x.cells⟩] g0
 rw[List.append_assoc]at g0'
 have hcut:∀b z,qaq (n0+2+r.length) (base b++(r++z))=base b++r:=fun b z=>by
  have:=qdd (hr b) z
  rw[List.append_assoc]at this
  rw[show(base b++r:H).length=n0+2+r.length by simp[hY.len]]at this
  exact this
 rw[qac,pg173]
 by_cases ho:x.op=1
 .have hcl:=hY.call b x.idx (r++[⟨0,.box x.cells⟩]) (qso hv1 ho) hrx
  have e:(b||(decide (x.op=1)&&f x.idx||qiy f x.args))=((b||f x.idx)||qiy f x.args):=by simp[ho,Bool.or_assoc]
  rw[e]
  have hloop:=hloop (b||f x.idx)
  generalize (b||f x.idx)=b1 at *
  have hcp:=hY.caps
  have hob:(x.op==1)=true:=by simpa using ho
  simp at hcp
  simp[-qaq,ir173,hY.len,g0',hob,hcp,hcl,qaf]
  generalize hq:ev pg (.code (.going _ L173_0) _)=o
  obtain⟨q,rfl,hl,hx,z,hh⟩:∃q,o=some q/\zwb f base x r b1 q:=by
   rw[<-hq]
   refine hloop _ ⟨b1,rfl,⟨?_,?_,?_,?_,?_,?_⟩,rfl⟩
   all_goals simp[qdv]
  simp[-qaq,hx,hh,hcut]
 .have e:(b||(decide (x.op=1)&&f x.idx||qiy f x.args))=(b||qiy f x.args):=by simp[ho]
  rw[e]
  have hob:(x.op==1)=false:=by simpa using ho
  simp[-qaq,ir173,hY.len,hob,qaf]
  generalize hq:ev pg (.code (.going _ L173_0) _)=o
  obtain⟨q,rfl,hl,hx,z,hh⟩:∃q,o=some q/\zwb f base x r b q:=by
   rw[<-hq]
   refine hloop b _ ⟨b,rfl,⟨?_,?_,?_,?_,?_,?_⟩,rfl⟩
   all_goals simp[qdv]
  simp[-qaq,hx,hh,hcut]
end Go.Proofs.YtlhciedghbmjjaaGreat
