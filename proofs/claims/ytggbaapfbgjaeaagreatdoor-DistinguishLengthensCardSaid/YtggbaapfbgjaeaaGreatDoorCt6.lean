/- Variables of. -/
import Derived.Test.YtggbaapfbgjaeaaGreatDoorCt3
set_option linter.all false
namespace Go.Proofs.YtggbaapfbgjaeaaGreatDoor
open Go Go.Am Go.Proofs
set_option maxRecDepth 100000
theorem z3k{n:Int}(h:0<=n)(h2:n<256):IntKind.u8.wrap n=n:=by unfold IntKind.wrap;simp[IntKind.bits,IntKind.signed];omega
def zlc(n:Nat):Bool:=decide (122<n) || !qdl n
theorem ev165(n:Nat):ev pg (.call (fnq 165) [.int .i32 n] [])=some (rvq (.bool (zlc n))):=by
 rw[qab,pg165.1];by_cases h:122<n
 .have h':(122:Int)<(n:Int):=by omega
  simp[ir165,zlc,h,h']
 .have h':¬((122:Int)<(n:Int)):=by omega
  have hc:=ev166 n;have w8:=z3k (n:=(n:Int)) (by omega) (by omega);simp[ir165,zlc,h,h',w8,hc]
abbrev qgp(s:Txt):Bool:=s.all fun b=>qdl b.toNat
theorem zqj{f:UInt8->Bool}{l:Txt}{k:Nat}(hk:k<l.length):(l.drop k).all f=(f l[k]&&(l.drop (k+1)).all f):=by rw[jL hk];rfl
theorem zrb{t:Txt}{k:Nat}(hk:k<t.length)(h:t[k].toNat<128):Utf8.decode ⟨t.toArray⟩ k=(t[k].toNat,1):=by
 have hs:k<(⟨t.toArray⟩:ByteArray).size:=by show k<t.toArray.size;simpa using hk
 have hg:(⟨t.toArray⟩:ByteArray)[k]'hs=t[k]:=by show t.toArray[k]=t[k];simp
 have:=Go.decode_ascii ⟨t.toArray⟩ k hs (by rw[hg];exact h);rw[hg]at this;exact this
theorem zlp{t:Txt}{k:Nat}(hk:k<t.length)(h:128<=t[k].toNat):128<=(Utf8.decode ⟨t.toArray⟩ k).1:=by
 have hs:k<(⟨t.toArray⟩:ByteArray).size:=by show k<t.toArray.size;simpa using hk
 have hg:(⟨t.toArray⟩:ByteArray)[k]'hs=t[k]:=by show t.toArray[k]=t[k];simp
 exact(Go.decode_high ⟨t.toArray⟩ k hs (by rw[hg];exact h)).1
def z0u(t:Txt)(k:Nat)(st:St):Prop:=st.h=[⟨0,.sit t k⟩]/\st.s.length=21/\qaj st.s 1=.fn 165 [] []/\qaj st.s 2=.bool true/\qaj st.s 10=.sit 0/\qgp t=qgp (t.drop k)
def zuo(t:Txt)(r:R):Prop:=r.st.s.length=21/\((r.x=.exit 0/\qgp t=true)\/(r.x=.ret/\∃k:Nat,qaj r.st.s 6=num k/\qgp t=false))
theorem zso(t:Txt)(st:St)(h0:z0u t 0 st):∃r,ev pg (.code (.going 1 L232_0) st)=some r/\zuo t r:=by
 refine qaw (z0u t) t.length (zuo t) h0 ?_ ?_
 .rintro k ⟨s,h⟩ hk ⟨rfl,hl,e1,e2,e10,he⟩;simp only at hl e1 e2 e10;have he2:qgp (t.drop k)=(qdl t[k].toNat&&qgp (t.drop (k+1))):=zqj hk;rw[he2]at he;rw[qad hl];by_cases hlow:t[k].toNat<128
  .have hd:=zrb hk hlow;have hc:=ev165 t[k].toNat
   by_cases hw:qdl t[k].toNat=true
   .have hb:zlc t[k].toNat=false:=by
     have:¬122<t[k].toNat:=fun h=>by simp[qdl,qbu]at hw;omega
     simp[zlc,hw,this]
    rw[hw,Bool.true_and]at he;rw[hb]at hc;simp[L232_0,z0u,List.range,List.range.loop,e1,e2,e10,hk,hd,hc,he]
   .have hb:zlc t[k].toNat=true:=by simp[zlc,hw]
    have hw':qdl t[k].toNat=false:=by simpa using hw
    rw[hw',Bool.false_and]at he;rw[hb]at hc;simp[L232_0,zuo,List.range,List.range.loop,e1,e2,e10,hk,hd,hc,he];exact⟨k,rfl⟩
  .have hd:=zlp hk (by omega);have hc:=ev165 (Utf8.decode ⟨t.toArray⟩ k).1;have hb:zlc (Utf8.decode ⟨t.toArray⟩ k).1=true:=by
    have:122<(Utf8.decode ⟨t.toArray⟩ k).1:=by omega
    simp[zlc,this]
   have hw':qdl t[k].toNat=false:=by simp[qdl,qbu];omega
   rw[hw',Bool.false_and]at he;rw[hb]at hc;simp[L232_0,zuo,List.range,List.range.loop,e1,e2,e10,hk,hc,he];exact⟨k,rfl⟩
 .rintro⟨s,h⟩ ⟨rfl,hl,e1,e2,e10,he⟩;simp only[List.drop_length]at hl e1 e2 e10 he;have he':qgp t=true:=he;rw[qad hl];simp[L232_0,zuo,List.range,List.range.loop,e1,e2,e10,he']
theorem ev164(t:Txt):ev pg (.call (fnq 164) [.str t,.fn 165 [] []] [])=some (rvq (.bool (!qgp t))):=by
 have h204:∃i:Int,ev pg (.call (fnq 232) [.str t,.fn 165 [] [],.bool true] [])=some (rvq (num i))/\decide (0<=i)=!qgp t:=by
  rw[qab,pg232.1];simp[ir232,qah];generalize hr:ev pg (.code (.going 1 L232_0) _)=o;obtain⟨r,rfl,hl,hQ⟩:∃r,o=some r/\zuo t r:=by rw[<-hr];exact zso t _ ⟨by simp,by simp,by simp,by simp,by simp,rfl⟩
  rcases hQ with⟨hx,hE⟩ | ⟨hx,k,h6,hE⟩
  .refine⟨-1,?_⟩;simp[hx,hl,hE]
  .refine⟨k,?_⟩;simp[hx,h6,hE]
 obtain⟨i,h204,hi⟩:=h204;have h189:ev pg (.call (fnq 202) [.str t,.fn 165 [] []] [])=some (rvq (num i)):=by rw[qab,pg202.1];simp[ir202,h204]
 rw[qab,pg164.1,<-hi];simp[ir164,h189]
theorem q1b:∀l:Txt,qdt false l=qgp l
 | []=>rfl
 | b :: r=>by
  rw[qdt,q1b r];show _=(qdl b.toNat&&qgp r)
  cases qdl b.toNat<;>simp
theorem qhh(b:UInt8)(r:Txt):qdy (b :: r)=(qbu b.toNat&&qgp (b :: r)):=by
 show((if(true && !qbu b.toNat) || !qdl b.toNat then false else qdt false r)&&true)=(qbu b.toNat&&(qdl b.toNat&&qgp r))
 rw[q1b];cases qbu b.toNat<;>cases qdl b.toNat<;>simp
def qeo(K:List Txt)(s:Txt):Int:=if qdy s=true then(if 24<s.length then 17 else if s∈K then 7 else 0)else 3
def qay(c:Ct)(A n:Nat):List Txt:=(List.range n).map (qbk c A)
def z0q(c:Ct)(A n:Nat)(k:Nat)(st:St):Prop:=st.h=[⟨0,.box c.cells⟩]/\st.s.length=26/\qaj st.s 1=num n/\qaj st.s 2=.bptr 0 0/\qaj st.s 5=.str (qbk c A n)/\qaj st.s 6=num k/\∀j,j<k->qbk c A j≠qbk c A n
def zvr(c:Ct)(A n:Nat)(r:R):Prop:=r.st.s.length=26/\((r.x=.exit 0/\¬qbk c A n∈qay c A n)\/(r.x=.ret/\qaj r.st.s 4=num 7/\qbk c A n∈qay c A n))
theorem zse{c:Ct}{A:Nat}(h:Mid c A)(n:Nat)(hn:n<qac c A)(st:St)(h0:z0q c A n 0 st):∃r,ev pg (.code (.going 1 L94_0) st)=some r/\zvr c A n r:=by
 have hcn:qac c A<=172:=by obtain⟨hA,h1,h2,h3,h4⟩:=h;unfold qac;omega
 refine qaw (z0q c A n) n (zvr c A n) h0 ?_ ?_
 .rintro k ⟨s,hh⟩ hk ⟨rfl,hl,e1,e2,e5,e6,he⟩;simp only at hl e1 e2 e5 e6;have hk':(k:Int)<n:=by omega
  have wk:=qbi k;have hc:=ev140 h k (by omega);rw[qad hl];by_cases ha:qbk c A k=qbk c A n
  .have hin:qbk c A n∈qay c A n:=List.mem_map.2 ⟨k,List.mem_range.2 hk,ha⟩;simp[L94_0,zvr,List.range,List.range.loop,e1,e2,e5,e6,hk',hc,ha,hin]
  .have ha':(qbk c A k==qbk c A n)=false:=by simpa using ha
   simp[L94_0,z0q,List.range,List.range.loop,e1,e2,e5,e6,hk',hc,ha',wk];intro j hj;by_cases hjk:j=k
   .rw[hjk];exact ha
   .exact he j (by omega)
 .rintro⟨s,hh⟩ ⟨rfl,hl,e1,e2,e5,e6,he⟩;simp only at hl e1 e2 e5 e6;have hno:¬qbk c A n∈qay c A n:=fun hin=>by
   obtain⟨j,hj,e⟩:=List.mem_map.1 hin;exact he j (List.mem_range.1 hj) e
  rw[qad hl];simp[L94_0,zvr,List.range,List.range.loop,e1,e2,e5,e6,hno]
theorem ev94{c:Ct}{A:Nat}(h:Mid c A)(n:Nat)(hn:n<qac c A)(hlen:(qbk c A n).length<2 ^ 62):ev pg (.call (fnq 94) [c.v,num n] [])=some (rvq (num (qeo (qay c A n) (qbk c A n)))):=by
 have hc:=ev140 h n hn;have hw:=ev141 (qbk c A n) hlen;rw[qab,pg94.1];by_cases h1:qdy (qbk c A n)=true
 .by_cases h2:24<(qbk c A n).length
  .have h2':(24:Int)<((qbk c A n).length:Int):=by omega
   simp[ir94,qeo,hc,hw,h1,h2,h2']
  .have h2':¬((24:Int)<((qbk c A n).length:Int)):=by omega
   simp[ir94,qeo,hc,hw,h1,h2,h2',qah];generalize hr:ev pg (.code (.going 1 L94_0) _)=o;obtain⟨r,rfl,hl,hQ⟩:∃r,o=some r/\zvr c A n r:=by rw[<-hr];exact zse h n hn _ ⟨by simp,by simp,by simp,by simp,by simp,by simp,fun j hj=>by omega⟩
   rcases hQ with⟨hx,hE⟩ | ⟨hx,h4,hE⟩
   .simp[hx,hl,hE]
   .simp[hx,h4,hE]
 .simp[ir94,qeo,hc,hw,h1]
abbrev z0k(l:List (Txt×Int)):List (V×V):=l.map fun p=>(V.str p.1,num p.2)
theorem q9u:∀(l:List (Txt×Int)) (s:Txt),∃r,qpp (z0k l) (.str s)=some r/\r.isSome=decide (s∈l.map Prod.fst)
 | [],s=>⟨none,rfl,by simp⟩
 | (k,v) :: l,s=>by
  obtain⟨r,h1,h2⟩:=q9u l s;by_cases h:s=k
  .subst h;exact⟨some (num v),by simp[qpp],by simp⟩
  .have h':(s==k)=false:=by simpa using h
   refine⟨r,?_,?_⟩
   .simp only[List.map_cons,qpp,eqS,h'];exact h1
   .rw[h2];simp[h]
theorem q8q:∀(l:List (Txt×Int)) (s:Txt) (v:Int),∃l',q3p (z0k l) (.str s) (num v)=some (z0k l')/\∀t,t∈l'.map Prod.fst<->(t∈l.map Prod.fst\/t=s)
 | [],s,v=>⟨[(s,v)],rfl,fun t=>by simp⟩
 | (k,w) :: l,s,v=>by
  obtain⟨l',h1,h2⟩:=q8q l s v;by_cases h:s=k
  .subst h;exact⟨(s,v) :: l,by simp[q3p],fun t=>by simp;intro e;exact .inl e⟩
  .have h':(s==k)=false:=by simpa using h
   refine⟨(k,w) :: l',?_,fun t=>?_⟩
   .simp only[List.map_cons,q3p,eqS,h'];rw[h1];rfl
   .simp only[List.map_cons,List.mem_cons,h2 t];exact⟨fun h=>by rcases h with h | h | h<;>simp[h],fun h=>by rcases h with(h | h) | h<;>simp[h]⟩
abbrev zyv(c:Ct):List V:=[num c.act,.imm (c.inputs.map qpk),.imm (c.signals.map Sg.row),qct c.plus,qct c.minus,.map 2,.fn 120 [.bptr 3 0] [],.fn 121 [.bptr 3 0] [],.fn 122 [.bptr 3 0] []]
abbrev hX(c:Ct)(l:List (Txt×Int))(t:H):H:=⟨0,.box c.cells⟩ :: ⟨0,.box c.cells⟩ :: ⟨0,.map (z0k l)⟩ :: ⟨0,.box (zyv c)⟩ :: t
theorem ev124(c:Ct)(l:List (Txt×Int))(t:H)(hc:∀l,qcp (hX c l t))(s:Txt):∃l',ev pg (.call (fnq 124) [.bptr 3 0,.str s] (hX c l t))=some { v:=num (qeo (l.map Prod.fst) s),st:=⟨[],hX c l' t⟩ }/\((qeo (l.map Prod.fst) s=0/\∀q,q∈l'.map Prod.fst<->(q∈l.map Prod.fst\/q=s))\/(qeo (l.map Prod.fst) s≠0/\l'=l)):=by
 have h158:=ev164 s;have hck:∀l,qdw (t.length+1+1+1+1) (hX c l t)=hX c l t:=fun l=>qfp (hc l);rw[qab,pg124.1];cases s with
 | nil =>refine⟨l,?_,.inr ⟨by simp[qeo,qdy],rfl⟩⟩;simp[-qdw,ir124,qeo,qdy,hck]
 | cons b r =>
  have hwb:=qhh b r;by_cases g1:b.toNat<97
  .have g1':(b.toNat:Int)<97:=by omega
   have hw:qdy (b :: r)=false:=by rw[hwb];simp[qbu];omega
   refine⟨l,?_,.inr ⟨by simp[qeo,hw],rfl⟩⟩;simp[-qdw,ir124,qeo,hw,hck,g1']
  by_cases g2:122<b.toNat
  .have g1':¬((b.toNat:Int)<97):=by omega
   have g2':(122:Int)<(b.toNat:Int):=by omega
   have hw:qdy (b :: r)=false:=by rw[hwb];simp[qbu];omega
   refine⟨l,?_,.inr ⟨by simp[qeo,hw],rfl⟩⟩;simp[-qdw,ir124,qeo,hw,hck,g1',g2']
  have g1':¬((b.toNat:Int)<97):=by omega
  have g2':¬((122:Int)<(b.toNat:Int)):=by omega
  have hsm:qbu b.toNat=true:=by simp[qbu];omega
  rw[hsm,Bool.true_and]at hwb;generalize hwa:qgp (b :: r)=wa at *;cases wa with
  | false =>refine⟨l,?_,.inr ⟨by simp[qeo,hwb],rfl⟩⟩;simp[-qdw,ir124,qeo,hwb,hck,g1',g2',h158]
  | true =>
   by_cases g3:24<(b :: r).length
   .have g3':(24:Int)<(r.length:Int)+1:=by simp only[List.length_cons]at g3;omega
    refine⟨l,?_,.inr ⟨by rw[qeo,hwb,if_pos rfl,if_pos g3];omega,rfl⟩⟩;have he:qeo (l.map Prod.fst) (b :: r)=17:=by rw[qeo,hwb,if_pos rfl,if_pos g3]
    rw[he];simp[-qdw,ir124,hck,g1',g2',h158,g3']
   .have g3':¬((24:Int)<(r.length:Int)+1):=by simp only[List.length_cons]at g3;omega
    obtain⟨q,hq1,hq2⟩:=q9u l (b :: r);by_cases hin:(b :: r)∈l.map Prod.fst
    .have he:qeo (l.map Prod.fst) (b :: r)=7:=by rw[qeo,hwb,if_pos rfl,if_neg g3,if_pos hin]
     rw[decide_eq_true hin]at hq2;refine⟨l,?_,.inr ⟨by rw[he];omega,rfl⟩⟩;rw[he];simp[-qdw,ir124,hck,g1',g2',h158,g3',hq1,hq2]
    .have he:qeo (l.map Prod.fst) (b :: r)=0:=by rw[qeo,hwb,if_pos rfl,if_neg g3,if_neg hin]
     rw[decide_eq_false hin]at hq2;obtain⟨l',hu1,hu2⟩:=q8q l (b :: r) l.length;refine⟨l',?_,.inl ⟨he,hu2⟩⟩;rw[he];simp[-qdw,ir124,qaa,exT,qag,hck,g1',g2',h158,g3',hq1,hq2,hu1]
mutual
def Ex.anyV(f:Int->Bool):Ex->Bool
 | .mk o i l=>(decide (o=1)&&f i)||qka f l
def qka(f:Int->Bool):List Ex->Bool
 | []=>false
 | x :: l=>x.anyV f||qka f l
end
theorem q6y(f:Int->Bool)(x:Ex):x.anyV f=((decide (x.op=1)&&f x.idx)||qka f x.args):=by cases x;rw[Ex.anyV];rfl
theorem zkz{f:Int->Bool}{l:List Ex}{k:Nat}(hk:k<l.length):qka f (l.drop k)=(l[k].anyV f||qka f (l.drop (k+1))):=by rw[jL hk,qka]
theorem q4h{n:Int}:∀{l:List Ex},q4g n l=0->∀y∈l,y.err n=0
 | [],_,y,hy=>nomatch hy
 | x :: l,h,y,hy=>by
  rw[q4g]at h;split at h
  .rename_i hx;rcases List.mem_cons.1 hy with rfl | hy
   .exact hx
   .exact q4h h y hy
  .rename_i hx;exact absurd h hx
theorem qhj{n:Int}{x:Ex}(h:x.err n=0):qbp x.op x.idx x.args.length n=0/\∀y∈x.args,y.err n=0:=by
 rw[q9q]at h;split at h
 .rename_i h1;exact⟨h1,q4h h⟩
 .rename_i h1;exact absurd h h1
theorem qjt{o i n:Int}{k:Nat}(h:qbp o i k n=0)(ho:o=1):0<=i/\i<n:=by
 subst ho;by_cases hk:k=0
 .have e:qbp 1 i k n=if i<0\/n<=i then 2 else 0:=by simp[qbp,hk]
  rw[e]at h;by_cases hc:i<0\/n<=i
  .rw[if_pos hc]at h;omega
  .omega
 .have e:qbp 1 i k n=3:=by simp[qbp,hk]
  omega
structure Eac(n:Nat)(m:Int)(f:Int->Bool)(caps:List V)(base:Bool->H):Prop where
 len:∀b,(base b).length=n+2
 g0:∀b,(base b)[n]?=some ⟨0,.box [.fn 160 [] caps]⟩
 g1:∀b,(base b)[n+1]?=some ⟨0,.box [.fn 198 [] [.bptr n 0,.bptr (n+1) 0]]⟩
 call:∀b (i:Int) r,0<=i/\i<m->(∀b,qcp (base b++r))->ev pg (.call (.fn 160 [] caps) [num i] (base b++r))=some { v:=.tup [],st:=⟨[],base (b||f i)++r⟩ }
 caps:V.low 0 (.fn 160 [] caps)=false
structure Keep186(n:Nat)(x:Ex)(k:Nat)(st:List V):Prop where
 nn:qas st
 len:st.length=24
 t2:qaj st 2=.bptr (n+1) 0
 t14:qaj st 14=.imm (x.args.map Ex.row)
 t15:qaj st 15=num x.args.length
 t16:qaj st 16=num k
def z3m(n:Nat)(f:Int->Bool)(base:Bool->H)(x:Ex)(r:H)(b0:Bool)(k:Nat)(st:St):Prop:=∃b,st.h=base b++(r++[⟨0,.box x.cells⟩])/\Keep186 n x k st.s/\(b0||qka f x.args)=(b||qka f (x.args.drop k))
def zvw(f:Int->Bool)(base:Bool->H)(x:Ex)(r:H)(b0:Bool)(q:Am.R):Prop:=q.st.s.length=24/\q.x=.exit 0/\∃z,q.st.h=base (b0||qka f x.args)++(r++z)
theorem zsm{n0:Nat}{m:Int}{f:Int->Bool}{caps:List V}{base:Bool->H}(hY:Eac n0 m f caps base)(x:Ex)(hx:x.nodes<=256)(hv:∀y∈x.args,y.err m=0)(r:H)(hr:∀b,qcp (base b++r))
  (ih:∀y∈x.args,∀(b:Bool) (r:H),y.nodes<=256->y.err m=0->(∀b,qcp (base b++r))->ev pg (.call (.fn 198 [] [.bptr n0 0,.bptr (n0+1) 0]) [y.v] (base b++r))=some { v:=.tup [],st:=⟨[],base (b||y.anyV f)++r⟩ })
  (b0:Bool) (n:Nat) (hn:n=n0+2+(r.length+1)) (st:St) (h0:z3m n0 f base x r b0 0 st):∃q,ev pg (.code (.going n L198_0) st)=some q/\zvw f base x r b0 q:=by
 have hfew:=qfj hx;have hrx:∀b,qcp (base b++(r++[⟨0,.box x.cells⟩])):=fun b=>by rw[<-List.append_assoc];exact qgg (hr b) (by simp)
 refine qaw (z3m n0 f base x r b0) x.args.length (zvw f base x r b0) h0 ?_ ?_
 .rintro k ⟨sl,h⟩ hk ⟨b,rfl,⟨hnn,hl,e2,e14,e15,e16⟩,hw⟩;simp only at hl e2 e14 e15 e16;have hnl:∀j,qaj sl j ≠ .nils:=qar hnn;have hk':(k:Int)<x.args.length:=by omega
  have wk:=qbi k;have hmem:=jH hk;have hry:∀b,qcp (base b++(r++[⟨0,.box x.cells⟩,⟨0,.arr 0 []⟩,⟨0,.box x.args[k].cells⟩])):=fun b=>by
   have e:base b++(r++[⟨0,.box x.cells⟩,⟨0,.arr 0 []⟩,⟨0,.box x.args[k].cells⟩])=(base b++(r++[⟨0,.box x.cells⟩]))++[⟨0,.arr 0 []⟩,⟨0,.box x.args[k].cells⟩]:=by simp
   rw[e];exact qgg (hrx b) (by simp[qbw])
  have hc:=ih x.args[k] hmem b _ (qev hx hmem) (hv _ hmem) hry;have e0:∀b,base b++(r++[⟨0,.box x.cells⟩,⟨0,.arr 0 []⟩,⟨0,.box x.args[k].cells⟩])=(base b++(r++[⟨0,.box x.cells⟩]))++[⟨0,.arr 0 []⟩,⟨0,.box x.args[k].cells⟩]:=fun b=>by simp
  rw[e0,e0]at hc;rw[zkz hk,<-Bool.or_assoc]at hw;generalize hs2:(b||x.args[k].anyV f)=b2 at *;have hl0:(base b++(r++[⟨0,.box x.cells⟩]):H).length=n:=by simp[hY.len,hn]
  have hl2:(base b2++(r++[⟨0,.box x.cells⟩]):H).length=n:=by simp[hY.len,hn]
  have g1:=qgy (r++[⟨0,.box x.cells⟩]) (hY.g1 b);have hc2:=hrx b2;have hcut:=qqp hc2;rw[hl2]at hcut;generalize hG:base b++(r++[⟨0,.box x.cells⟩])=G at *;generalize hG2:base b2++(r++[⟨0,.box x.cells⟩])=G2 at *;have g1':∀z,(G++z)[n0+1]?=some ⟨0,.box [.fn 198 [] [.bptr n0 0,.bptr (n0+1) 0]]⟩:=fun z=>qgy z g1;have t1:=z0n hl0;rw[qad hl];simp[-qgt,L198_0,List.range,List.range.loop,e2,e14,e15,e16,hk,hk',wk,hl0,t1,g1',hc,hcut];have h9:n0+1<n:=by omega
  exact⟨b2,hG2.symm,⟨by simp[qas,hnl],rfl,by simp[h9],rfl,rfl,rfl⟩,hw⟩
 .rintro⟨sl,h⟩ ⟨b,rfl,⟨hnn,hl,e2,e14,e15,e16⟩,hw⟩;simp only[List.drop_length]at hl e2 e14 e15 e16 hw;rw[qka,Bool.or_false]at hw;rw[qad hl];simp[L198_0,zvw,List.range,List.range.loop,e2,e14,e15,e16,hw]
theorem ev198{n0:Nat}{m:Int}{f:Int->Bool}{caps:List V}{base:Bool->H}(hY:Eac n0 m f caps base):∀(x:Ex) (b:Bool) (r:H),x.nodes<=256->x.err m=0->(∀b,qcp (base b++r))->ev pg (.call (.fn 198 [] [.bptr n0 0,.bptr (n0+1) 0]) [x.v] (base b++r))=some { v:=.tup [],st:=⟨[],base (b||x.anyV f)++r⟩ }:=by
 refine Ex.ind fun x ih b r hx hv hr=>?_;obtain⟨hv1,hv2⟩:=qhj hv;have hrx:∀b,qcp (base b++(r++[⟨0,.box x.cells⟩])):=fun b=>by rw[<-List.append_assoc];exact qgg (hr b) (by simp)
 have hloop:=fun b1=>zsm hY x hx hv2 r hr ih b1 (n0+2+(r.length+1)) rfl;rw[q6y];have hl0:(base b++r:H).length=n0+2+r.length:=by simp[hY.len]
 have g0:=qgy r (hY.g0 b);have gx:∀b,(base b++(r++[⟨0,.box x.cells⟩]))[n0+2+r.length]?=some ⟨0,.box x.cells⟩:=fun b=>by have:=z1g (h:=base b++r) (n:=n0+2+r.length) (by simp[hY.len]) ⟨0,.box x.cells⟩;rwa [List.append_assoc]at this
 have g0':=qgy [⟨0,.box x.cells⟩] g0;rw[List.append_assoc]at g0';have hcut:∀b z,qdw (n0+2+r.length) (base b++(r++z))=base b++r:=fun b z=>by have:=qey (hr b) z;rw[List.append_assoc]at this;rw[show(base b++r:H).length=n0+2+r.length by simp[hY.len]]at this;exact this
 rw[qab,pg198.1];by_cases ho:x.op=1
 .have hcl:=hY.call b x.idx (r++[⟨0,.box x.cells⟩]) (qjt hv1 ho) hrx;have e:(b||(decide (x.op=1)&&f x.idx||qka f x.args))=((b||f x.idx)||qka f x.args):=by simp[ho,Bool.or_assoc]
  rw[e];have hloop:=hloop (b||f x.idx);generalize (b||f x.idx)=b1 at *;have hcp:=hY.caps;have hob:(x.op==1)=true:=by simpa using ho
  simp at hcp;simp[-qdw,ir198,hY.len,g0',hob,hcp,hcl,qah];generalize hq:ev pg (.code (.going _ L198_0) _)=o;obtain⟨q,rfl,hl,hx,z,hh⟩:∃q,o=some q/\zvw f base x r b1 q:=by
   rw[<-hq];refine hloop _ ⟨b1,rfl,⟨?_,?_,?_,?_,?_,?_⟩,rfl⟩
   all_goals simp[qas]
  simp[-qdw,hx,hh,hcut]
 .have e:(b||(decide (x.op=1)&&f x.idx||qka f x.args))=(b||qka f x.args):=by simp[ho]
  rw[e];have hob:(x.op==1)=false:=by simpa using ho
  simp[-qdw,ir198,hY.len,hob,qah];generalize hq:ev pg (.code (.going _ L198_0) _)=o;obtain⟨q,rfl,hl,hx,z,hh⟩:∃q,o=some q/\zvw f base x r b q:=by
   rw[<-hq];refine hloop b _ ⟨b,rfl,⟨?_,?_,?_,?_,?_,?_⟩,rfl⟩
   all_goals simp[qas]
  simp[-qdw,hx,hh,hcut]
end Go.Proofs.YtggbaapfbgjaeaaGreatDoor
