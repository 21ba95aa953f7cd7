/- Expressions: how many nodes they have, and how deep they are, by the reference. Expressions, by the reference: depth, light ones, errors. Expressions, by the program: a node alone. -/
import Derived.Test.YtddeacahiilikaaGreatRPg6
set_option linter.all false
namespace Go.Proofs.YtddeacahiilikaaGreat
open Go Go.Am Go.Proofs
set_option maxRecDepth 100000
abbrev num(n:Int):V:=.int .i64 n
inductive Ex where
 | mk (op idx:Int) (args:List Ex)
def Ex.op:Ex->Int
 | .mk o _ _=>o
def Ex.idx:Ex->Int
 | .mk _ i _=>i
def Ex.args:Ex->List Ex
 | .mk _ _ l=>l
mutual
def Ex.row:Ex->List V
 | .mk o i l=>[num o,num i,.imm (zef l)]
def zef:List Ex->List (List V)
 | []=>[]
 | x :: l=>x.row :: zef l
end
theorem qzb:∀l:List Ex,zef l=l.map Ex.row
 | []=>rfl
 | x :: l=>by rw[zef,qzb l];rfl
abbrev Ex.cells(x:Ex):List V:=[num x.op,num x.idx,.imm (x.args.map Ex.row)]
abbrev Ex.v(x:Ex):V:=.agg x.cells
@[simp] theorem zfv(x:Ex):x.row=x.cells:=by
 cases x with
 | mk o i l=>rw[Ex.row,qzb];rfl
theorem z0d{x y:Ex}(h:y∈x.args):SizeOf.sizeOf y<SizeOf.sizeOf x:=by
 cases x with
 | mk o i l =>
  have:=List.sizeOf_lt_of_mem (show y∈l from h)
  simp only[Ex.mk.sizeOf_spec]
  omega
theorem Ex.ind{P:Ex->Prop}(h:∀x,(∀y∈x.args,P y)->P x):∀x,P x:=by
 have:∀n (x:Ex),SizeOf.sizeOf x<n->P x:=by
  intro n
  induction n with
  | zero=>intro x hx;omega
  | succ n ih=>exact fun x hx=>h x fun y hy=>ih y (by have:=z0d hy;omega)
 exact fun x=>this _ x (Nat.lt_succ_self _)
mutual
def Ex.nodes:Ex->Nat
 | .mk _ _ l=>1+qdn l
def qdn:List Ex->Nat
 | []=>0
 | x :: l=>x.nodes+qdn l
end
mutual
def Ex.depth:Ex->Nat
 | .mk _ _ l=>1+qjm l
def qjm:List Ex->Nat
 | []=>0
 | x :: l=>max x.depth (qjm l)
end
theorem qkz(x:Ex):x.nodes=1+qdn x.args:=by cases x;rw[Ex.nodes];rfl
theorem qmu(x:Ex):x.depth=1+qjm x.args:=by cases x;rw[Ex.depth];rfl
theorem qru(x:Ex):1<=x.nodes:=by rw[qkz];omega
theorem qib(x:Ex):1<=x.depth:=by rw[qmu];omega
theorem qja:∀a b:List Ex,qdn (a++b)=qdn a+qdn b
 | [],b=>by simp[qdn]
 | x :: a,b=>by rw[List.cons_append,qdn,qdn,qja a b,Nat.add_assoc]
theorem q0q{l:List Ex}{k:Nat}(hk:k<l.length):qdn (l.take (k+1))=qdn (l.take k)+l[k].nodes:=by
 rw[jK hk,qja]
 simp[qdn]
theorem q9n{l:List Ex}(k:Nat):qdn (l.take k)<=qdn l:=by
 conv=>rhs;rw[<-List.take_append_drop k l]
 rw[qja]
 omega
theorem qor:∀l:List Ex,l.length<=qdn l
 | []=>jD _
 | x :: l=>by
  have h1:=qor l
  have h2:=qru x
  rw[qdn,List.length_cons]
  omega
theorem qyr:∀{l:List Ex} {y:Ex},y∈l->y.nodes<=qdn l
 | x :: l,y,h=>by
  rw[qdn]
  rcases List.mem_cons.1 h with rfl | h
  .omega
  .have:=qyr h
   omega
theorem qrf{d:Nat}:∀{l:List Ex},qjm l<=d<->∀y∈l,y.depth<=d
 | []=>by simp[qjm]
 | x :: l=>by
  rw[qjm,List.forall_mem_cons,<-qrf (l:=l)]
  omega
def ztb(x:Ex)(m k:Nat)(st:St):Prop:=∃n:Nat,st.h=[⟨0,.box x.cells⟩]/\st.s.length=31/\qao st.s 1=num m/\qao st.s 2=.bptr 0 0/\qao st.s 5=num n/\qao st.s 6=num k/\n=min (1+qdn (x.args.take k)) (m+1)/\(k=0\/1+qdn (x.args.take (k-1))<=m)
def zpt(x:Ex)(m:Nat)(r:R):Prop:=r.x=.exit 0/\r.st.s.length=31/\qao r.st.s 5=num (min x.nodes (m+1):Nat)
theorem zmy(x:Ex)(m:Nat)(hm:m<=256)(ih:∀y∈x.args,∀m:Nat,m<=256->ev pg (.call (.fn 162 [] []) [y.v,num m] [])=some { v:=num (min y.nodes (m+1):Nat),st:=⟨[],[]⟩ })(st:St)(h0:ztb x m 0 st):∃r,ev pg (.code (.going 1 L162_0) st)=some r/\zpt x m r:=by
 refine qbh (ztb x m) x.args.length (zpt x m) h0 ?_ ?_
 .rintro k ⟨s,h⟩ hk ⟨n,rfl,hl,e1,e2,e5,e6,hn,hkm⟩
  simp only at hl e1 e2 e5 e6
  have hk':(k:Int)<x.args.length:=by omega
  have hnt:=q0q hk
  have hlen:=qor (x.args.take k)
  rw[List.length_take]at hlen
  have hle:=q9n (l:=x.args) (k+1)
  have hnx:=qkz x
  have hnp:=qru x.args[k]
  rw[qag hl]
  by_cases hnm:n<=m
  .have hnm':(n:Int)<=m:=by omega
   have hc:=ih x.args[k] (jH hk) (m-n) (by omega)
   have wk:=qab (n:=(k:Int)+1) (by omega) (by omega)
   have hsub:(m:Int)-(n:Int)=((m-n:Nat):Int):=by omega
   have ws:=qab (n:=((m-n:Nat):Int)) (by omega) (by omega)
   have hmin:min x.args[k].nodes (m-n+1)<=257:=by omega
   have wa:=qab (n:=(n:Int)+((min x.args[k].nodes (m-n+1):Nat):Int)) (by omega) (by omega)
   generalize hq:min x.args[k].nodes (m-n+1)=q at *
   simp[L162_0,ztb,List.range,List.range.loop,e1,e2,e5,e6,hk,hk',hnm',hsub,ws,hc,wa,wk]
   exact⟨n+q,rfl,by omega,by omega⟩
  .have hnm':¬((n:Int)<=m):=by omega
   simp[L162_0,ztb,zpt,List.range,List.range.loop,e1,e2,e5,e6,hk',hnm]
   omega
 .rintro⟨s,h⟩ ⟨n,rfl,hl,e1,e2,e5,e6,hn,hkm⟩
  simp only[List.take_length]at hl e1 e2 e5 e6 hn
  have hnx:=qkz x
  rw[qag hl]
  simp[L162_0,zpt,List.range,List.range.loop,e1,e2,e5,e6]
  omega
theorem ev162:∀(x:Ex) (m:Nat),m<=256->ev pg (.call (.fn 162 [] []) [x.v,num m] [])=some { v:=num (min x.nodes (m+1):Nat),st:=⟨[],[]⟩ }:=by
 refine Ex.ind fun x ih m hm=>?_
 rw[qac,pg162]
 simp[ir162,qaf]
 generalize hr:ev pg (.code (.going 1 L162_0) _)=o
 obtain⟨r,rfl,hx,hl,h5⟩:∃r,o=some r/\zpt x m r:=by
  rw[<-hr]
  exact zmy x m hm ih _ ⟨1,by simp,by simp,by simp,by simp,by simp,by simp,by simp[qdn],.inl rfl⟩
 simp[hx,hl,h5]
theorem qfb{x:Ex}(h:x.nodes<=256):x.args.length<=255:=by
 have h1:=qor x.args
 have h2:=qkz x
 omega
theorem qex{x y:Ex}(h:x.nodes<=256)(hy:y∈x.args):y.nodes<=256:=by
 have h1:=qyr hy
 have h2:=qkz x
 omega
def ztc(x:Ex)(m k:Nat)(st:St):Prop:=st.h=[⟨0,.box x.cells⟩]/\st.s.length=30/\qao st.s 1=num (m+2:Nat)/\qao st.s 2=.bptr 0 0/\qao st.s 5=num k/\∀j y,j<k->x.args[j]?=some y->y.depth<=m+1
def zpu(x:Ex)(m:Nat)(r:R):Prop:=r.st.s.length=30/\((r.x=.exit 0/\x.depth<=m+2)\/(r.x=.ret/\qao r.st.s 4=.bool false/\¬x.depth<=m+2))
theorem qtl{x:Ex}{m:Nat}:x.depth<=m+2<->∀y∈x.args,y.depth<=m+1:=by
 rw[qmu,<-qrf (l:=x.args)]
 omega
theorem zmz(x:Ex)(m:Nat)(hm:m<=256)(hx:x.nodes<=256)(ih:∀y∈x.args,∀m:Nat,m<=257->y.nodes<=256->ev pg (.call (.fn 163 [] []) [y.v,num m] [])=some { v:=.bool (decide (y.depth<=m)),st:=⟨[],[]⟩ })(st:St)(h0:ztc x m 0 st):∃r,ev pg (.code (.going 1 L163_0) st)=some r/\zpu x m r:=by
 have hfew:=qfb hx
 refine qbh (ztc x m) x.args.length (zpu x m) h0 ?_ ?_
 .rintro k ⟨s,h⟩ hk ⟨rfl,hl,e1,e2,e5,he⟩
  simp only at hl e1 e2 e5
  have hk':(k:Int)<x.args.length:=by omega
  have wk:=qab (n:=(k:Int)+1) (by omega) (by omega)
  have hmem:=jH hk
  have hc:=ih x.args[k] hmem (m+1) (by omega) (qex hx hmem)
  have hsub:(m:Int)+2-1=(m:Int)+1:=by omega
  have ws:=qab (n:=(m:Int)+1) (by omega) (by omega)
  simp at hc
  rw[qag hl]
  by_cases hd:x.args[k].depth<=m+1
  .simp[L163_0,ztc,List.range,List.range.loop,e1,e2,e5,hk,hk',hsub,ws,hc,hd,wk]
   intro j y hj hy
   by_cases hjk:j=k
   .subst hjk
    rw[jA hk]at hy
    cases hy
    exact hd
   .exact he j y (by omega) hy
  .have hno:¬x.depth<=m+2:=fun h=>hd (qtl.1 h _ hmem)
   simp[L163_0,ztc,zpu,List.range,List.range.loop,e1,e2,e5,hk,hk',hsub,ws,hc,hd]
   omega
 .rintro⟨s,h⟩ ⟨rfl,hl,e1,e2,e5,he⟩
  simp only at hl e1 e2 e5
  have hyes:x.depth<=m+2:=qtl.2 fun y hy=>by
   obtain⟨j,hj⟩:=List.mem_iff_getElem?.1 hy
   exact he j y (jG.1 hj).1 hj
  rw[qag hl]
  simp[L163_0,zpu,List.range,List.range.loop,e1,e2,e5,hyes]
theorem ev163:∀(x:Ex) (m:Nat),m<=257->x.nodes<=256->ev pg (.call (.fn 163 [] []) [x.v,num m] [])=some { v:=.bool (decide (x.depth<=m)),st:=⟨[],[]⟩ }:=by
 refine Ex.ind fun x ih m hm hx=>?_
 have hp:=qib x
 rw[qac,pg163]
 match m with
 | 0 =>
  have:¬x.depth<=0:=by omega
  simp[ir163,this]
 | 1 =>
  have h1:x.depth<=1<->x.args=[]:=by
   rw[qmu]
   constructor
   .intro h
    match hl:x.args with
    | []=>rfl
    | y :: l =>
     rw[hl,qjm]at h
     have:=qib y
     omega
   .intro h;rw[h];simp[qjm]
  by_cases h2:x.args=[]
  .simp[ir163,h1,h2]
  .have h3:¬x.args.length=0:=fun e=>h2 (List.length_eq_zero_iff.1 e)
   have h4:((x.args.length:Int)==0)=false:=by simp;exact h2
   simp[ir163,h1,h2]
 | m+2 =>
  have hlt:¬((m:Int)+2<1):=by omega
  have hne:¬((m:Int)+2=1):=by omega
  have hne':((m:Int)+2==1)=false:=by simpa using hne
  simp[ir163,hlt,hne',qaf]
  generalize hr:ev pg (.code (.going 1 L163_0) _)=o
  obtain⟨r,rfl,hl,hQ⟩:∃r,o=some r/\zpu x m r:=by
   rw[<-hr]
   exact zmz x m (by omega) hx ih _ ⟨by simp,by simp,by simp,by simp,by simp,fun j y hj _=>by omega⟩
  rcases hQ with⟨hx,hE⟩ | ⟨hx,h4,hE⟩
  .simp[hx,hl,hE]
  .simp[hx,h4,hE]
def Ex.light(x:Ex):Bool:=decide (x.nodes<=256)&&decide (x.depth<=16)
theorem ev82(x:Ex):ev pg (.call (.fn 82 [] []) [x.v] [])=some { v:=.bool x.light,st:=⟨[],[]⟩ }:=by
 have h1:=ev162 x 256 (by omega)
 rw[qac,pg82]
 by_cases h:x.nodes<=256
 .have h2:=ev163 x 16 (by omega) h
  have h3:min x.nodes (256+1)=x.nodes:=by omega
  have h4:(x.nodes:Int)<=256:=by omega
  rw[h3]at h1
  simp at h1 h2
  simp[ir82,Ex.light,h1,h2,h,h4]
 .have h3:min x.nodes (256+1)=257:=by omega
  rw[h3]at h1
  simp at h1
  simp[ir82,Ex.light,h1,h]
def qbg(o i:Int)(k:Nat)(n:Int):Int :=
 if o<0\/5<=o then 1 else if(o<=1/\k≠0)\/(o=2/\k≠1)\/(3<=o/\k<2)then 3 else if i<0\/(if o=0 then 2 else if o=1 then n else 1)<=i then 2 else 0
theorem ev279'(o i n:Int)(l:List Ex):ev pg (.call (.fn 279 [] []) [.agg [num o,num i,.imm (l.map Ex.row)],num n] [])=some { v:=num (qbg o i l.length n),st:=⟨[],[]⟩ }:=by
 rw[qac,pg279]
 by_cases h1:o<0
 .simp[ir279,qbg,h1]
 by_cases h2:5<=o
 .simp[ir279,qbg,h1,h2]
 have hl2:((l.length:Int)<2)<->l.length<2:=by omega
 have hl1:((l.length:Int)=1)<->l.length=1:=by omega
 rcases (by omega:o=0\/o=1\/o=2\/o=3\/o=4)with rfl | rfl | rfl | rfl | rfl
 .by_cases h3:l.length=0
  .by_cases h4:i<0
   .simp[ir279,qbg,h3,h4]
   .by_cases h5:2<=i<;>simp[ir279,qbg,h3,h4,h5]
  .have h3':((l.length:Int) != 0)=true:=by simp;simpa using h3
   simp[ir279,qbg,h3,h3']
 .by_cases h3:l.length=0
  .by_cases h4:i<0
   .simp[ir279,qbg,h3,h4]
   .by_cases h5:n<=i<;>simp[ir279,qbg,h3,h4,h5]
  .have h3':((l.length:Int) != 0)=true:=by simp;simpa using h3
   simp[ir279,qbg,h3,h3']
 .by_cases h3:l.length=1
  .by_cases h4:i<0
   .simp[ir279,qbg,h3,h4]
   .by_cases h5:1<=i<;>simp[ir279,qbg,h3,h4,h5]
  .have h3':((l.length:Int) != 1)=true:=by simp;omega
   simp[ir279,qbg,h3,h3']
 .by_cases h3:l.length<2
  .simp[ir279,qbg,h3,hl2]
  .by_cases h4:i<0
   .simp[ir279,qbg,h3,hl2,h4]
   .by_cases h5:1<=i<;>simp[ir279,qbg,h3,hl2,h4,h5]
 .by_cases h3:l.length<2
  .simp[ir279,qbg,h3,hl2]
  .by_cases h4:i<0
   .simp[ir279,qbg,h3,hl2,h4]
   .by_cases h5:1<=i<;>simp[ir279,qbg,h3,hl2,h4,h5]
theorem ev279(x:Ex)(n:Int):ev pg (.call (.fn 279 [] []) [x.v,num n] [])=some { v:=num (qbg x.op x.idx x.args.length n),st:=⟨[],[]⟩ }:=ev279' x.op x.idx n x.args
mutual
def Ex.err(n:Int):Ex->Int
 | .mk o i l=>if qbg o i l.length n=0 then qxq n l else qbg o i l.length n
def qxq(n:Int):List Ex->Int
 | []=>0
 | x :: l=>if x.err n=0 then qxq n l else x.err n
end
theorem q2b(n:Int)(x:Ex):x.err n=if qbg x.op x.idx x.args.length n=0 then qxq n x.args else qbg x.op x.idx x.args.length n:=by cases x;rw[Ex.err];rfl
theorem zhb{n:Int}{l:List Ex}{k:Nat}(hk:k<l.length):qxq n (l.drop k)=if l[k].err n=0 then qxq n (l.drop (k+1))else l[k].err n:=by
 rw[jL hk,qxq]
def zpp(x:Ex)(n:Int)(k:Nat)(st:St):Prop:=st.h=[⟨0,.box x.cells⟩]/\st.s.length=31/\qao st.s 1=num n/\qao st.s 2=.bptr 0 0/\qao st.s 6=num k/\qxq n x.args=qxq n (x.args.drop k)
def zpy(x:Ex)(n:Int)(r:R):Prop:=r.st.s.length=31/\((r.x=.exit 0/\qxq n x.args=0)\/(r.x=.ret/\qao r.st.s 4=num (qxq n x.args)))
theorem znf(x:Ex)(n:Int)(hx:x.nodes<=256)(ih:∀y∈x.args,y.nodes<=256->ev pg (.call (.fn 241 [] []) [y.v,num n] [])=some { v:=num (y.err n),st:=⟨[],[]⟩ })(st:St)(h0:zpp x n 0 st):∃r,ev pg (.code (.going 1 L241_0) st)=some r/\zpy x n r:=by
 have hfew:=qfb hx
 refine qbh (zpp x n) x.args.length (zpy x n) h0 ?_ ?_
 .rintro k ⟨s,h⟩ hk ⟨rfl,hl,e1,e2,e6,he⟩
  simp only at hl e1 e2 e6
  have hk':(k:Int)<x.args.length:=by omega
  have wk:=qab (n:=(k:Int)+1) (by omega) (by omega)
  have hmem:=jH hk
  have hc:=ih x.args[k] hmem (qex hx hmem)
  rw[zhb hk]at he
  rw[qag hl]
  by_cases hd:x.args[k].err n=0
  .rw[if_pos hd]at he
   simp[L241_0,zpp,List.range,List.range.loop,e1,e2,e6,hk,hk',hc,hd,wk,he]
  .rw[if_neg hd]at he
   simp[L241_0,zpp,zpy,List.range,List.range.loop,e1,e2,e6,hk,hk',hc,hd,he]
 .rintro⟨s,h⟩ ⟨rfl,hl,e1,e2,e6,he⟩
  simp only[List.drop_length]at hl e1 e2 e6 he
  rw[qag hl]
  simp[L241_0,zpy,List.range,List.range.loop,e1,e2,e6,he,qxq]
theorem ev241(n:Int):∀x:Ex,x.nodes<=256->ev pg (.call (.fn 241 [] []) [x.v,num n] [])=some { v:=num (x.err n),st:=⟨[],[]⟩ }:=by
 refine Ex.ind fun x ih hx=>?_
 have hc:=ev279 x n
 rw[qac,pg241,q2b]
 by_cases h:qbg x.op x.idx x.args.length n=0
 .simp[ir241,hc,h,qaf]
  generalize hr:ev pg (.code (.going 1 L241_0) _)=o
  obtain⟨r,rfl,hl,hQ⟩:∃r,o=some r/\zpy x n r:=by
   rw[<-hr]
   exact znf x n hx ih _ (by simp[zpp])
  rcases hQ with⟨hx,hE⟩ | ⟨hx,h4⟩
  .simp[hx,hl,hE]
  .simp[hx,h4]
 .simp[ir241,hc,h]
def Ex.check(x:Ex)(n:Int):Int:=if n<0\/256<n then 2 else if x.light=true then x.err n else 5
theorem qec{x:Ex}(h:x.light=true):x.nodes<=256/\x.depth<=16:=by simpa[Ex.light]using h
theorem ev203(x:Ex)(n:Int):ev pg (.call (.fn 203 [] []) [x.v,num n] [])=some { v:=num (x.check n),st:=⟨[],[]⟩ }:=by
 have hl:=ev82 x
 rw[qac,pg203]
 by_cases h1:n<0
 .simp[ir203,Ex.check,h1]
 .by_cases h2:256<n
  .simp[ir203,Ex.check,h1,h2]
  .by_cases h3:x.light=true
   .have hc:=ev241 n x (qec h3).1
    simp[ir203,Ex.check,h1,h2,hl,h3,hc]
   .simp[ir203,Ex.check,h1,h2,hl,h3]
theorem ev273'(o i n:Int)(l:List Ex)(hl:l.length<=256)(hn:0<=n/\n<=256):ev pg (.call (.fn 273 [] []) [.agg [num o,num i,.imm (l.map Ex.row)],num n] [])=some { v:=num (qbg o i l.length n),st:=⟨[],[]⟩ }:=by
 have wn:=qab (n:=n-1) (by omega) (by omega)
 rw[qac,pg273]
 by_cases h1:o<0
 .simp[ir273,qbg,h1]
 by_cases h2:5<=o
 .simp[ir273,qbg,h1,h2]
 have hl2:((l.length:Int)<2)<->l.length<2:=by omega
 have hneg:¬((l.length:Int)<0):=by omega
 have hg256:¬((256:Int)<(l.length:Int)):=by omega
 rcases (by omega:o=0\/o=1\/o=2\/o=3\/o=4)with rfl | rfl | rfl | rfl | rfl
 .by_cases h3:l.length=0
  .by_cases h4:i<0
   .simp[ir273,qac,ir275,ir297,qaa,exT,qae,qbg,h3,h4]
   .by_cases h5:1<i
    .have h6:2<=i:=by omega
     simp[ir273,qac,ir275,ir297,qaa,exT,qae,qbg,h3,h4,h5,h6]
    .have h6:¬(2<=i):=by omega
     simp[ir273,qac,ir275,ir297,qaa,exT,qae,qbg,h3,h4,h5,h6]
  .have h3':0<l.length:=by omega
   have h3n:l≠[]:=fun e=>h3 (by rw[e];rfl)
   simp[ir273,qac,ir275,ir297,qaa,exT,qae,qbg,h3,h3',hneg]
 .by_cases h3:l.length=0
  .by_cases h4:i<0
   .simp[ir273,qac,ir275,ir297,qaa,exT,qae,qbg,h3,h4,wn]
   .by_cases h5:n-1<i
    .have h6:n<=i:=by omega
     simp[ir273,qac,ir275,ir297,qaa,exT,qae,qbg,h3,h4,h5,h6,wn]
    .have h6:¬(n<=i):=by omega
     simp[ir273,qac,ir275,ir297,qaa,exT,qae,qbg,h3,h4,h5,h6,wn]
  .have h3':0<l.length:=by omega
   have h3n:l≠[]:=fun e=>h3 (by rw[e];rfl)
   simp[ir273,qac,ir275,ir297,qaa,exT,qae,qbg,h3,h3',hneg]
 .by_cases h3:l.length=1
  .by_cases h4:i<0
   .simp[ir273,qac,ir275,ir297,qaa,exT,qae,qbg,h3,h4]
   .by_cases h5:0<i
    .have h6:1<=i:=by omega
     simp[ir273,qac,ir275,ir297,qaa,exT,qae,qbg,h3,h4,h5,h6]
    .have h6:¬(1<=i):=by omega
     simp[ir273,qac,ir275,ir297,qaa,exT,qae,qbg,h3,h4,h5,h6]
  .have h3':((l.length:Int)<1)\/¬((l.length:Int)<1)/\(1:Int)<(l.length:Int):=by omega
   rcases h3' with h3' | ⟨h3',h3n⟩
   .simp[ir273,qac,ir275,ir297,qaa,exT,qae,qbg,h3,h3']
   .simp[ir273,qac,ir275,ir297,qaa,exT,qae,qbg,h3,h3',h3n]
 .by_cases h3:l.length<2
  .simp[ir273,qac,ir275,ir297,qaa,exT,qae,qbg,h3,hl2]
  .by_cases h4:i<0
   .simp[ir273,qac,ir275,ir297,qaa,exT,qae,qbg,h3,h4,hl2,hg256]
   .by_cases h5:0<i
    .have h6:1<=i:=by omega
     simp[ir273,qac,ir275,ir297,qaa,exT,qae,qbg,h3,h4,h5,h6,hl2,hg256]
    .have h6:¬(1<=i):=by omega
     simp[ir273,qac,ir275,ir297,qaa,exT,qae,qbg,h3,h4,h5,h6,hl2,hg256]
 .by_cases h3:l.length<2
  .simp[ir273,qac,ir275,ir297,qaa,exT,qae,qbg,h3,hl2]
  .by_cases h4:i<0
   .simp[ir273,qac,ir275,ir297,qaa,exT,qae,qbg,h3,h4,hl2,hg256]
   .by_cases h5:0<i
    .have h6:1<=i:=by omega
     simp[ir273,qac,ir275,ir297,qaa,exT,qae,qbg,h3,h4,h5,h6,hl2,hg256]
    .have h6:¬(1<=i):=by omega
     simp[ir273,qac,ir275,ir297,qaa,exT,qae,qbg,h3,h4,h5,h6,hl2,hg256]
theorem ev273(x:Ex)(n:Int)(hx:x.nodes<=256)(hn:0<=n/\n<=256):ev pg (.call (.fn 273 [] []) [x.v,num n] [])=some { v:=num (qbg x.op x.idx x.args.length n),st:=⟨[],[]⟩ }:=ev273' x.op x.idx n x.args (by have:=qfb hx;omega) hn
end Go.Proofs.YtddeacahiilikaaGreat
