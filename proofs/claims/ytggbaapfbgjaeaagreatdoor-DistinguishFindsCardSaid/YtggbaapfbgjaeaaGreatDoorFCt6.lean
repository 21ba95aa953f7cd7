/- Variables of. -/
import Derived.Test.YtggbaapfbgjaeaaGreatDoorFCt3
set_option linter.all false
namespace Go.Proofs.YtggbaapfbgjaeaaGreatDoor
open Go Go.Am Go.Proofs
set_option maxRecDepth 100000
theorem z5d{n:Int}(h:0<=n)(h2:n<256):IntKind.u8.wrap n=n:=by unfold IntKind.wrap;simp[IntKind.bits,IntKind.signed];omega
def zlx(n:Nat):Bool:=decide (122<n) || !qdn n
theorem ev165(n:Nat):ev pg (.call (fnq 165) [.int .i32 n] [])=some (rvq (.bool (zlx n))):=by
 rw[qaa,pg165.1];by_cases h:122<n
 .have h':(122:Int)<(n:Int):=by omega
  simp[ir165,zlx,h,h']
 .have h':¬((122:Int)<(n:Int)):=by omega
  have hc:=ev166 n;have w8:=z5d (n:=(n:Int)) (by omega) (by omega);simp[ir165,zlx,h,h',w8,hc]
abbrev qgr(s:Txt):Bool:=s.all fun b=>qdn b.toNat
theorem zro{f:UInt8->Bool}{l:Txt}{k:Nat}(hk:k<l.length):(l.drop k).all f=(f l[k]&&(l.drop (k+1)).all f):=by rw[jL hk];rfl
theorem zsf{t:Txt}{k:Nat}(hk:k<t.length)(h:t[k].toNat<128):Utf8.decode ⟨t.toArray⟩ k=(t[k].toNat,1):=by
 have hs:k<(⟨t.toArray⟩:ByteArray).size:=by show k<t.toArray.size;simpa using hk
 have hg:(⟨t.toArray⟩:ByteArray)[k]'hs=t[k]:=by show t.toArray[k]=t[k];simp
 have:=Go.decode_ascii ⟨t.toArray⟩ k hs (by rw[hg];exact h);rw[hg]at this;exact this
theorem zmj{t:Txt}{k:Nat}(hk:k<t.length)(h:128<=t[k].toNat):128<=(Utf8.decode ⟨t.toArray⟩ k).1:=by
 have hs:k<(⟨t.toArray⟩:ByteArray).size:=by show k<t.toArray.size;simpa using hk
 have hg:(⟨t.toArray⟩:ByteArray)[k]'hs=t[k]:=by show t.toArray[k]=t[k];simp
 exact(Go.decode_high ⟨t.toArray⟩ k hs (by rw[hg];exact h)).1
def z2d(t:Txt)(k:Nat)(st:St):Prop:=st.h=[⟨0,.sit t k⟩]/\st.s.length=21/\qah st.s 1=.fn 165 [] []/\qah st.s 2=.bool true/\qah st.s 10=.sit 0/\qgr t=qgr (t.drop k)
def zvt(t:Txt)(r:R):Prop:=r.st.s.length=21/\((r.x=.exit 0/\qgr t=true)\/(r.x=.ret/\∃k:Nat,qah r.st.s 6=num k/\qgr t=false))
theorem ztu(t:Txt)(st:St)(h0:z2d t 0 st):∃r,ev pg (.code (.going 1 L232_0) st)=some r/\zvt t r:=by
 refine qat (z2d t) t.length (zvt t) h0 ?_ ?_
 .rintro k ⟨s,h⟩ hk ⟨rfl,hl,e1,e2,e10,he⟩;simp only at hl e1 e2 e10;have he2:qgr (t.drop k)=(qdn t[k].toNat&&qgr (t.drop (k+1))):=zro hk;rw[he2]at he;rw[qac hl];by_cases hlow:t[k].toNat<128
  .have hd:=zsf hk hlow;have hc:=ev165 t[k].toNat
   by_cases hw:qdn t[k].toNat=true
   .have hb:zlx t[k].toNat=false:=by
     have:¬122<t[k].toNat:=fun h=>by simp[qdn,qbv]at hw;omega
     simp[zlx,hw,this]
    rw[hw,Bool.true_and]at he;rw[hb]at hc;simp[L232_0,z2d,List.range,List.range.loop,e1,e2,e10,hk,hd,hc,he]
   .have hb:zlx t[k].toNat=true:=by simp[zlx,hw]
    have hw':qdn t[k].toNat=false:=by simpa using hw
    rw[hw',Bool.false_and]at he;rw[hb]at hc;simp[L232_0,zvt,List.range,List.range.loop,e1,e2,e10,hk,hd,hc,he];exact⟨k,rfl⟩
  .have hd:=zmj hk (by omega);have hc:=ev165 (Utf8.decode ⟨t.toArray⟩ k).1;have hb:zlx (Utf8.decode ⟨t.toArray⟩ k).1=true:=by
    have:122<(Utf8.decode ⟨t.toArray⟩ k).1:=by omega
    simp[zlx,this]
   have hw':qdn t[k].toNat=false:=by simp[qdn,qbv];omega
   rw[hw',Bool.false_and]at he;rw[hb]at hc;simp[L232_0,zvt,List.range,List.range.loop,e1,e2,e10,hk,hc,he];exact⟨k,rfl⟩
 .rintro⟨s,h⟩ ⟨rfl,hl,e1,e2,e10,he⟩;simp only[List.drop_length]at hl e1 e2 e10 he;have he':qgr t=true:=he;rw[qac hl];simp[L232_0,zvt,List.range,List.range.loop,e1,e2,e10,he']
theorem ev164(t:Txt):ev pg (.call (fnq 164) [.str t,.fn 165 [] []] [])=some (rvq (.bool (!qgr t))):=by
 have h204:∃i:Int,ev pg (.call (fnq 232) [.str t,.fn 165 [] [],.bool true] [])=some (rvq (num i))/\decide (0<=i)=!qgr t:=by
  rw[qaa,pg232.1];simp[ir232,qai];generalize hr:ev pg (.code (.going 1 L232_0) _)=o;obtain⟨r,rfl,hl,hQ⟩:∃r,o=some r/\zvt t r:=by rw[<-hr];exact ztu t _ ⟨by simp,by simp,by simp,by simp,by simp,rfl⟩
  rcases hQ with⟨hx,hE⟩ | ⟨hx,k,h6,hE⟩
  .refine⟨-1,?_⟩;simp[hx,hl,hE]
  .refine⟨k,?_⟩;simp[hx,h6,hE]
 obtain⟨i,h204,hi⟩:=h204;have h189:ev pg (.call (fnq 202) [.str t,.fn 165 [] []] [])=some (rvq (num i)):=by rw[qaa,pg202.1];simp[ir202,h204]
 rw[qaa,pg164.1,<-hi];simp[ir164,h189]
theorem q1k:∀l:Txt,qdu false l=qgr l
 | []=>rfl
 | b :: r=>by
  rw[qdu,q1k r];show _=(qdn b.toNat&&qgr r)
  cases qdn b.toNat<;>simp
theorem qhi(b:UInt8)(r:Txt):qea (b :: r)=(qbv b.toNat&&qgr (b :: r)):=by
 show((if(true && !qbv b.toNat) || !qdn b.toNat then false else qdu false r)&&true)=(qbv b.toNat&&(qdn b.toNat&&qgr r))
 rw[q1k];cases qbv b.toNat<;>cases qdn b.toNat<;>simp
def qes(K:List Txt)(s:Txt):Int:=if qea s=true then(if 24<s.length then 17 else if s∈K then 7 else 0)else 3
def qaw(c:Ct)(A n:Nat):List Txt:=(List.range n).map (qbj c A)
def z1z(c:Ct)(A n:Nat)(k:Nat)(st:St):Prop:=st.h=[⟨0,.box c.cells⟩]/\st.s.length=26/\qah st.s 1=num n/\qah st.s 2=.bptr 0 0/\qah st.s 5=.str (qbj c A n)/\qah st.s 6=num k/\∀j,j<k->qbj c A j≠qbj c A n
def zxa(c:Ct)(A n:Nat)(r:R):Prop:=r.st.s.length=26/\((r.x=.exit 0/\¬qbj c A n∈qaw c A n)\/(r.x=.ret/\qah r.st.s 4=num 7/\qbj c A n∈qaw c A n))
theorem ztk{c:Ct}{A:Nat}(h:Mid c A)(n:Nat)(hn:n<qad c A)(st:St)(h0:z1z c A n 0 st):∃r,ev pg (.code (.going 1 L94_0) st)=some r/\zxa c A n r:=by
 have hcn:qad c A<=172:=by obtain⟨hA,h1,h2,h3,h4⟩:=h;unfold qad;omega
 refine qat (z1z c A n) n (zxa c A n) h0 ?_ ?_
 .rintro k ⟨s,hh⟩ hk ⟨rfl,hl,e1,e2,e5,e6,he⟩;simp only at hl e1 e2 e5 e6;have hk':(k:Int)<n:=by omega
  have wk:=qbc k;have hc:=ev140 h k (by omega);rw[qac hl];by_cases ha:qbj c A k=qbj c A n
  .have hin:qbj c A n∈qaw c A n:=List.mem_map.2 ⟨k,List.mem_range.2 hk,ha⟩;simp[L94_0,zxa,List.range,List.range.loop,e1,e2,e5,e6,hk',hc,ha,hin]
  .have ha':(qbj c A k==qbj c A n)=false:=by simpa using ha
   simp[L94_0,z1z,List.range,List.range.loop,e1,e2,e5,e6,hk',hc,ha',wk];intro j hj;by_cases hjk:j=k
   .rw[hjk];exact ha
   .exact he j (by omega)
 .rintro⟨s,hh⟩ ⟨rfl,hl,e1,e2,e5,e6,he⟩;simp only at hl e1 e2 e5 e6;have hno:¬qbj c A n∈qaw c A n:=fun hin=>by
   obtain⟨j,hj,e⟩:=List.mem_map.1 hin;exact he j (List.mem_range.1 hj) e
  rw[qac hl];simp[L94_0,zxa,List.range,List.range.loop,e1,e2,e5,e6,hno]
theorem ev94{c:Ct}{A:Nat}(h:Mid c A)(n:Nat)(hn:n<qad c A)(hlen:(qbj c A n).length<2 ^ 62):ev pg (.call (fnq 94) [c.v,num n] [])=some (rvq (num (qes (qaw c A n) (qbj c A n)))):=by
 have hc:=ev140 h n hn;have hw:=ev141 (qbj c A n) hlen;rw[qaa,pg94.1];by_cases h1:qea (qbj c A n)=true
 .by_cases h2:24<(qbj c A n).length
  .have h2':(24:Int)<((qbj c A n).length:Int):=by omega
   simp[ir94,qes,hc,hw,h1,h2,h2']
  .have h2':¬((24:Int)<((qbj c A n).length:Int)):=by omega
   simp[ir94,qes,hc,hw,h1,h2,h2',qai];generalize hr:ev pg (.code (.going 1 L94_0) _)=o;obtain⟨r,rfl,hl,hQ⟩:∃r,o=some r/\zxa c A n r:=by rw[<-hr];exact ztk h n hn _ ⟨by simp,by simp,by simp,by simp,by simp,by simp,fun j hj=>by omega⟩
   rcases hQ with⟨hx,hE⟩ | ⟨hx,h4,hE⟩
   .simp[hx,hl,hE]
   .simp[hx,h4,hE]
 .simp[ir94,qes,hc,hw,h1]
abbrev z1u(l:List (Txt×Int)):List (V×V):=l.map fun p=>(V.str p.1,num p.2)
theorem zai:∀(l:List (Txt×Int)) (s:Txt),∃r,qpv (z1u l) (.str s)=some r/\r.isSome=decide (s∈l.map Prod.fst)
 | [],s=>⟨none,rfl,by simp⟩
 | (k,v) :: l,s=>by
  obtain⟨r,h1,h2⟩:=zai l s;by_cases h:s=k
  .subst h;exact⟨some (num v),by simp[qpv],by simp⟩
  .have h':(s==k)=false:=by simpa using h
   refine⟨r,?_,?_⟩
   .simp only[List.map_cons,qpv,eqS,h'];exact h1
   .rw[h2];simp[h]
theorem q9b:∀(l:List (Txt×Int)) (s:Txt) (v:Int),∃l',q3z (z1u l) (.str s) (num v)=some (z1u l')/\∀t,t∈l'.map Prod.fst<->(t∈l.map Prod.fst\/t=s)
 | [],s,v=>⟨[(s,v)],rfl,fun t=>by simp⟩
 | (k,w) :: l,s,v=>by
  obtain⟨l',h1,h2⟩:=q9b l s v;by_cases h:s=k
  .subst h;exact⟨(s,v) :: l,by simp[q3z],fun t=>by simp;intro e;exact .inl e⟩
  .have h':(s==k)=false:=by simpa using h
   refine⟨(k,w) :: l',?_,fun t=>?_⟩
   .simp only[List.map_cons,q3z,eqS,h'];rw[h1];rfl
   .simp only[List.map_cons,List.mem_cons,h2 t];exact⟨fun h=>by rcases h with h | h | h<;>simp[h],fun h=>by rcases h with(h | h) | h<;>simp[h]⟩
abbrev z0f(c:Ct):List V:=[num c.act,.imm (c.inputs.map qpq),.imm (c.signals.map Sg.row),qcr c.plus,qcr c.minus,.map 2,.fn 120 [.bptr 3 0] [],.fn 121 [.bptr 3 0] [],.fn 122 [.bptr 3 0] []]
abbrev hX(c:Ct)(l:List (Txt×Int))(t:H):H:=⟨0,.box c.cells⟩ :: ⟨0,.box c.cells⟩ :: ⟨0,.map (z1u l)⟩ :: ⟨0,.box (z0f c)⟩ :: t
theorem ev124(c:Ct)(l:List (Txt×Int))(t:H)(hc:∀l,calm (hX c l t))(s:Txt):∃l',ev pg (.call (fnq 124) [.bptr 3 0,.str s] (hX c l t))=some { v:=num (qes (l.map Prod.fst) s),st:=⟨[],hX c l' t⟩ }/\((qes (l.map Prod.fst) s=0/\∀q,q∈l'.map Prod.fst<->(q∈l.map Prod.fst\/q=s))\/(qes (l.map Prod.fst) s≠0/\l'=l)):=by
 have h158:=ev164 s;have hck:∀l,qde (t.length+1+1+1+1) (hX c l t)=hX c l t:=fun l=>qfu (hc l);rw[qaa,pg124.1];cases s with
 | nil =>refine⟨l,?_,.inr ⟨by simp[qes,qea],rfl⟩⟩;simp[-qde,ir124,qes,qea,hck]
 | cons b r =>
  have hwb:=qhi b r;by_cases g1:b.toNat<97
  .have g1':(b.toNat:Int)<97:=by omega
   have hw:qea (b :: r)=false:=by rw[hwb];simp[qbv];omega
   refine⟨l,?_,.inr ⟨by simp[qes,hw],rfl⟩⟩;simp[-qde,ir124,qes,hw,hck,g1']
  by_cases g2:122<b.toNat
  .have g1':¬((b.toNat:Int)<97):=by omega
   have g2':(122:Int)<(b.toNat:Int):=by omega
   have hw:qea (b :: r)=false:=by rw[hwb];simp[qbv];omega
   refine⟨l,?_,.inr ⟨by simp[qes,hw],rfl⟩⟩;simp[-qde,ir124,qes,hw,hck,g1',g2']
  have g1':¬((b.toNat:Int)<97):=by omega
  have g2':¬((122:Int)<(b.toNat:Int)):=by omega
  have hsm:qbv b.toNat=true:=by simp[qbv];omega
  rw[hsm,Bool.true_and]at hwb;generalize hwa:qgr (b :: r)=wa at *;cases wa with
  | false =>refine⟨l,?_,.inr ⟨by simp[qes,hwb],rfl⟩⟩;simp[-qde,ir124,qes,hwb,hck,g1',g2',h158]
  | true =>
   by_cases g3:24<(b :: r).length
   .have g3':(24:Int)<(r.length:Int)+1:=by simp only[List.length_cons]at g3;omega
    refine⟨l,?_,.inr ⟨by rw[qes,hwb,if_pos rfl,if_pos g3];omega,rfl⟩⟩;have he:qes (l.map Prod.fst) (b :: r)=17:=by rw[qes,hwb,if_pos rfl,if_pos g3]
    rw[he];simp[-qde,ir124,hck,g1',g2',h158,g3']
   .have g3':¬((24:Int)<(r.length:Int)+1):=by simp only[List.length_cons]at g3;omega
    obtain⟨q,hq1,hq2⟩:=zai l (b :: r);by_cases hin:(b :: r)∈l.map Prod.fst
    .have he:qes (l.map Prod.fst) (b :: r)=7:=by rw[qes,hwb,if_pos rfl,if_neg g3,if_pos hin]
     rw[decide_eq_true hin]at hq2;refine⟨l,?_,.inr ⟨by rw[he];omega,rfl⟩⟩;rw[he];simp[-qde,ir124,hck,g1',g2',h158,g3',hq1,hq2]
    .have he:qes (l.map Prod.fst) (b :: r)=0:=by rw[qes,hwb,if_pos rfl,if_neg g3,if_neg hin]
     rw[decide_eq_false hin]at hq2;obtain⟨l',hu1,hu2⟩:=q9b l (b :: r) l.length;refine⟨l',?_,.inl ⟨he,hu2⟩⟩;rw[he];simp[-qde,ir124,qab,exT,qag,hck,g1',g2',h158,g3',hq1,hq2,hu1]
mutual
def Ex.anyV(f:Int->Bool):Ex->Bool
 | .mk o i l=>(decide (o=1)&&f i)||qkb f l
def qkb(f:Int->Bool):List Ex->Bool
 | []=>false
 | x :: l=>x.anyV f||qkb f l
end
theorem q7k(f:Int->Bool)(x:Ex):x.anyV f=((decide (x.op=1)&&f x.idx)||qkb f x.args):=by cases x;rw[Ex.anyV];rfl
theorem zlu{f:Int->Bool}{l:List Ex}{k:Nat}(hk:k<l.length):qkb f (l.drop k)=(l[k].anyV f||qkb f (l.drop (k+1))):=by rw[jL hk,qkb]
theorem q4r{n:Int}:∀{l:List Ex},q4q n l=0->∀y∈l,y.err n=0
 | [],_,y,hy=>nomatch hy
 | x :: l,h,y,hy=>by
  rw[q4q]at h;split at h
  .rename_i hx;rcases List.mem_cons.1 hy with rfl | hy
   .exact hx
   .exact q4r h y hy
  .rename_i hx;exact absurd h hx
theorem qhk{n:Int}{x:Ex}(h:x.err n=0):qbq x.op x.idx x.args.length n=0/\∀y∈x.args,y.err n=0:=by
 rw[zae]at h;split at h
 .rename_i h1;exact⟨h1,q4r h⟩
 .rename_i h1;exact absurd h h1
theorem qju{o i n:Int}{k:Nat}(h:qbq o i k n=0)(ho:o=1):0<=i/\i<n:=by
 subst ho;by_cases hk:k=0
 .have e:qbq 1 i k n=if i<0\/n<=i then 2 else 0:=by simp[qbq,hk]
  rw[e]at h;by_cases hc:i<0\/n<=i
  .rw[if_pos hc]at h;omega
  .omega
 .have e:qbq 1 i k n=3:=by simp[qbq,hk]
  omega
structure Eac(n:Nat)(m:Int)(f:Int->Bool)(caps:List V)(base:Bool->H):Prop where
 len:∀b,(base b).length=n+2
 g0:∀b,(base b)[n]?=some ⟨0,.box [.fn 160 [] caps]⟩
 g1:∀b,(base b)[n+1]?=some ⟨0,.box [.fn 198 [] [.bptr n 0,.bptr (n+1) 0]]⟩
 call:∀b (i:Int) r,0<=i/\i<m->(∀b,calm (base b++r))->ev pg (.call (.fn 160 [] caps) [num i] (base b++r))=some { v:=.tup [],st:=⟨[],base (b||f i)++r⟩ }
 caps:V.low 0 (.fn 160 [] caps)=false
structure Keep186(n:Nat)(x:Ex)(k:Nat)(st:List V):Prop where
 nn:qaq st
 len:st.length=24
 t2:qah st 2=.bptr (n+1) 0
 t14:qah st 14=.imm (x.args.map Ex.row)
 t15:qah st 15=num x.args.length
 t16:qah st 16=num k
def z5f(n:Nat)(f:Int->Bool)(base:Bool->H)(x:Ex)(r:H)(b0:Bool)(k:Nat)(st:St):Prop:=∃b,st.h=base b++(r++[⟨0,.box x.cells⟩])/\Keep186 n x k st.s/\(b0||qkb f x.args)=(b||qkb f (x.args.drop k))
def zxf(f:Int->Bool)(base:Bool->H)(x:Ex)(r:H)(b0:Bool)(q:Am.R):Prop:=q.st.s.length=24/\q.x=.exit 0/\∃z,q.st.h=base (b0||qkb f x.args)++(r++z)
theorem zts{n0:Nat}{m:Int}{f:Int->Bool}{caps:List V}{base:Bool->H}(hY:Eac n0 m f caps base)(x:Ex)(hx:x.nodes<=256)(hv:∀y∈x.args,y.err m=0)(r:H)(hr:∀b,calm (base b++r))
  (ih:∀y∈x.args,∀(b:Bool) (r:H),y.nodes<=256->y.err m=0->(∀b,calm (base b++r))->ev pg (.call (.fn 198 [] [.bptr n0 0,.bptr (n0+1) 0]) [y.v] (base b++r))=some { v:=.tup [],st:=⟨[],base (b||y.anyV f)++r⟩ })
  (b0:Bool) (n:Nat) (hn:n=n0+2+(r.length+1)) (st:St) (h0:z5f n0 f base x r b0 0 st):∃q,ev pg (.code (.going n L198_0) st)=some q/\zxf f base x r b0 q:=by
 have hfew:=qfk hx;have hrx:∀b,calm (base b++(r++[⟨0,.box x.cells⟩])):=fun b=>by rw[<-List.append_assoc];exact qga (hr b) (by simp)
 refine qat (z5f n0 f base x r b0) x.args.length (zxf f base x r b0) h0 ?_ ?_
 .rintro k ⟨sl,h⟩ hk ⟨b,rfl,⟨hnn,hl,e2,e14,e15,e16⟩,hw⟩;simp only at hl e2 e14 e15 e16;have hnl:∀j,qah sl j ≠ .nils:=qap hnn;have hk':(k:Int)<x.args.length:=by omega
  have wk:=qbc k;have hmem:=jH hk;have hry:∀b,calm (base b++(r++[⟨0,.box x.cells⟩,⟨0,.arr 0 []⟩,⟨0,.box x.args[k].cells⟩])):=fun b=>by
   have e:base b++(r++[⟨0,.box x.cells⟩,⟨0,.arr 0 []⟩,⟨0,.box x.args[k].cells⟩])=(base b++(r++[⟨0,.box x.cells⟩]))++[⟨0,.arr 0 []⟩,⟨0,.box x.args[k].cells⟩]:=by simp
   rw[e];exact qga (hrx b) (by simp[qbx])
  have hc:=ih x.args[k] hmem b _ (qey hx hmem) (hv _ hmem) hry;have e0:∀b,base b++(r++[⟨0,.box x.cells⟩,⟨0,.arr 0 []⟩,⟨0,.box x.args[k].cells⟩])=(base b++(r++[⟨0,.box x.cells⟩]))++[⟨0,.arr 0 []⟩,⟨0,.box x.args[k].cells⟩]:=fun b=>by simp
  rw[e0,e0]at hc;rw[zlu hk,<-Bool.or_assoc]at hw;generalize hs2:(b||x.args[k].anyV f)=b2 at *;have hl0:(base b++(r++[⟨0,.box x.cells⟩]):H).length=n:=by simp[hY.len,hn]
  have hl2:(base b2++(r++[⟨0,.box x.cells⟩]):H).length=n:=by simp[hY.len,hn]
  have g1:=qgz (r++[⟨0,.box x.cells⟩]) (hY.g1 b);have hc2:=hrx b2;have hcut:=qog hc2;rw[hl2]at hcut;generalize hG:base b++(r++[⟨0,.box x.cells⟩])=G at *;generalize hG2:base b2++(r++[⟨0,.box x.cells⟩])=G2 at *;have g1':∀z,(G++z)[n0+1]?=some ⟨0,.box [.fn 198 [] [.bptr n0 0,.bptr (n0+1) 0]]⟩:=fun z=>qgz z g1;have t1:=z1x hl0;rw[qac hl];simp[-qgk,L198_0,List.range,List.range.loop,e2,e14,e15,e16,hk,hk',wk,hl0,t1,g1',hc,hcut];have h9:n0+1<n:=by omega
  exact⟨b2,hG2.symm,⟨by simp[qaq,hnl],rfl,by simp[h9],rfl,rfl,rfl⟩,hw⟩
 .rintro⟨sl,h⟩ ⟨b,rfl,⟨hnn,hl,e2,e14,e15,e16⟩,hw⟩;simp only[List.drop_length]at hl e2 e14 e15 e16 hw;rw[qkb,Bool.or_false]at hw;rw[qac hl];simp[L198_0,zxf,List.range,List.range.loop,e2,e14,e15,e16,hw]
theorem ev198{n0:Nat}{m:Int}{f:Int->Bool}{caps:List V}{base:Bool->H}(hY:Eac n0 m f caps base):∀(x:Ex) (b:Bool) (r:H),x.nodes<=256->x.err m=0->(∀b,calm (base b++r))->ev pg (.call (.fn 198 [] [.bptr n0 0,.bptr (n0+1) 0]) [x.v] (base b++r))=some { v:=.tup [],st:=⟨[],base (b||x.anyV f)++r⟩ }:=by
 refine Ex.ind fun x ih b r hx hv hr=>?_;obtain⟨hv1,hv2⟩:=qhk hv;have hrx:∀b,calm (base b++(r++[⟨0,.box x.cells⟩])):=fun b=>by rw[<-List.append_assoc];exact qga (hr b) (by simp)
 have hloop:=fun b1=>zts hY x hx hv2 r hr ih b1 (n0+2+(r.length+1)) rfl;rw[q7k];have hl0:(base b++r:H).length=n0+2+r.length:=by simp[hY.len]
 have g0:=qgz r (hY.g0 b);have gx:∀b,(base b++(r++[⟨0,.box x.cells⟩]))[n0+2+r.length]?=some ⟨0,.box x.cells⟩:=fun b=>by have:=z2q (h:=base b++r) (n:=n0+2+r.length) (by simp[hY.len]) ⟨0,.box x.cells⟩;rwa [List.append_assoc]at this
 have g0':=qgz [⟨0,.box x.cells⟩] g0;rw[List.append_assoc]at g0';have hcut:∀b z,qde (n0+2+r.length) (base b++(r++z))=base b++r:=fun b z=>by have:=qef (hr b) z;rw[List.append_assoc]at this;rw[show(base b++r:H).length=n0+2+r.length by simp[hY.len]]at this;exact this
 rw[qaa,pg198.1];by_cases ho:x.op=1
 .have hcl:=hY.call b x.idx (r++[⟨0,.box x.cells⟩]) (qju hv1 ho) hrx;have e:(b||(decide (x.op=1)&&f x.idx||qkb f x.args))=((b||f x.idx)||qkb f x.args):=by simp[ho,Bool.or_assoc]
  rw[e];have hloop:=hloop (b||f x.idx);generalize (b||f x.idx)=b1 at *;have hcp:=hY.caps;have hob:(x.op==1)=true:=by simpa using ho
  simp at hcp;simp[-qde,ir198,hY.len,g0',hob,hcp,hcl,qai];generalize hq:ev pg (.code (.going _ L198_0) _)=o;obtain⟨q,rfl,hl,hx,z,hh⟩:∃q,o=some q/\zxf f base x r b1 q:=by
   rw[<-hq];refine hloop _ ⟨b1,rfl,⟨?_,?_,?_,?_,?_,?_⟩,rfl⟩
   all_goals simp[qaq]
  simp[-qde,hx,hh,hcut]
 .have e:(b||(decide (x.op=1)&&f x.idx||qkb f x.args))=(b||qkb f x.args):=by simp[ho]
  rw[e];have hob:(x.op==1)=false:=by simpa using ho
  simp[-qde,ir198,hY.len,hob,qai];generalize hq:ev pg (.code (.going _ L198_0) _)=o;obtain⟨q,rfl,hl,hx,z,hh⟩:∃q,o=some q/\zxf f base x r b q:=by
   rw[<-hq];refine hloop b _ ⟨b,rfl,⟨?_,?_,?_,?_,?_,?_⟩,rfl⟩
   all_goals simp[qaq]
  simp[-qde,hx,hh,hcut]
end Go.Proofs.YtggbaapfbgjaeaaGreatDoor
