/- Expressions, by the program: a node alone. -/
import Derived.Test.YtbepbclaoohngaaGreatVPg7
set_option linter.all false
namespace Go.Proofs.YtbepbclaoohngaaGreat
open Go Go.Am Go.Proofs
set_option maxRecDepth 100000
abbrev num(n:Int):V:=.int .i64 n
inductive Ex where
 | mk (op idx:Int) (args:List Ex)
def Ex.op:Ex->Int
 | .mk o _ _=>o
def Ex.idx:Ex->Int
 | .mk _ i _=>i
def Ex.args:Ex->List Ex
 | .mk _ _ l=>l
mutual
def Ex.row:Ex->List V
 | .mk o i l=>[num o,num i,.imm (znv l)]
def znv:List Ex->List (List V)
 | []=>[]
 | x :: l=>x.row :: znv l
end
theorem q5k:∀l:List Ex,znv l=l.map Ex.row
 | []=>rfl
 | x :: l=>by rw[znv,q5k l];rfl
abbrev Ex.cells(x:Ex):List V:=[num x.op,num x.idx,.imm (x.args.map Ex.row)]
abbrev Ex.v(x:Ex):V:=.agg x.cells
@[simp] theorem qzw(x:Ex):x.row=x.cells:=by
 cases x with
 | mk o i l=>rw[Ex.row,q5k];rfl
theorem jaw{x y:Ex}(h:y∈x.args):SizeOf.sizeOf y<SizeOf.sizeOf x:=by
 cases x with
 | mk o i l =>
  have:=List.sizeOf_lt_of_mem (show y∈l from h)
  simp only[Ex.mk.sizeOf_spec]
  omega
theorem Ex.ind{P:Ex->Prop}(h:∀x,(∀y∈x.args,P y)->P x):∀x,P x:=by
 have:∀n (x:Ex),SizeOf.sizeOf x<n->P x:=by
  intro n
  induction n with
  | zero=>intro x hx;omega
  | succ n ih=>exact fun x hx=>h x fun y hy=>ih y (by have:=jaw hy;omega)
 exact fun x=>this _ x (Nat.lt_succ_self _)
mutual
def Ex.nodes:Ex->Nat
 | .mk _ _ l=>1+qdj l
def qdj:List Ex->Nat
 | []=>0
 | x :: l=>x.nodes+qdj l
end
mutual
def Ex.depth:Ex->Nat
 | .mk _ _ l=>1+qgt l
def qgt:List Ex->Nat
 | []=>0
 | x :: l=>max x.depth (qgt l)
end
theorem qnr(x:Ex):x.nodes=1+qdj x.args:=by cases x;rw[Ex.nodes];rfl
theorem qpz(x:Ex):x.depth=1+qgt x.args:=by cases x;rw[Ex.depth];rfl
theorem qwm(x:Ex):1<=x.nodes:=by rw[qnr];omega
theorem qkd(x:Ex):1<=x.depth:=by rw[qpz];omega
theorem qlh:∀a b:List Ex,qdj (a++b)=qdj a+qdj b
 | [],b=>by simp[qdj]
 | x :: a,b=>by rw[List.cons_append,qdj,qdj,qlh a b,Nat.add_assoc]
theorem q7i{l:List Ex}{k:Nat}(hk:k<l.length):qdj (l.take (k+1))=qdj (l.take k)+l[k].nodes:=by
 rw[jK hk,qlh]
 simp[qdj]
theorem zig{l:List Ex}(k:Nat):qdj (l.take k)<=qdj l:=by
 conv=>rhs;rw[<-List.take_append_drop k l]
 rw[qlh]
 omega
theorem qsg:∀l:List Ex,l.length<=qdj l
 | []=>jD _
 | x :: l=>by
  have h1:=qsg l
  have h2:=qwm x
  rw[qdj,List.length_cons]
  omega
theorem q4x:∀{l:List Ex} {y:Ex},y∈l->y.nodes<=qdj l
 | x :: l,y,h=>by
  rw[qdj]
  rcases List.mem_cons.1 h with rfl | h
  .omega
  .have:=q4x h
   omega
theorem qvh{d:Nat}:∀{l:List Ex},qgt l<=d<->∀y∈l,y.depth<=d
 | []=>by simp[qgt]
 | x :: l=>by
  rw[qgt,List.forall_mem_cons,<-qvh (l:=l)]
  omega
def z2t(x:Ex)(m k:Nat)(st:St):Prop:=∃n:Nat,st.h=[⟨0,.box x.cells⟩]/\st.s.length=31/\qai st.s 1=num m/\qai st.s 2=.bptr 0 0/\qai st.s 5=num n/\qai st.s 6=num k/\n=min (1+qdj (x.args.take k)) (m+1)/\(k=0\/1+qdj (x.args.take (k-1))<=m)
def zxh(x:Ex)(m:Nat)(r:R):Prop:=r.x=.exit 0/\r.st.s.length=31/\qai r.st.s 5=num (min x.nodes (m+1):Nat)
theorem ztg(x:Ex)(m:Nat)(hm:m<=256)(ih:∀y∈x.args,∀m:Nat,m<=256->ev pg (.call (.fn 122 [] []) [y.v,num m] [])=some { v:=num (min y.nodes (m+1):Nat),st:=⟨[],[]⟩ })(st:St)(h0:z2t x m 0 st):∃r,ev pg (.code (.going 1 L122_0) st)=some r/\zxh x m r:=by
 refine qau (z2t x m) x.args.length (zxh x m) h0 ?_ ?_
 .rintro k ⟨s,h⟩ hk ⟨n,rfl,hl,e1,e2,e5,e6,hn,hkm⟩
  simp only at hl e1 e2 e5 e6
  have hk':(k:Int)<x.args.length:=by omega
  have hnt:=q7i hk
  have hlen:=qsg (x.args.take k)
  rw[List.length_take]at hlen
  have hle:=zig (l:=x.args) (k+1)
  have hnx:=qnr x
  have hnp:=qwm x.args[k]
  rw[qad hl]
  by_cases hnm:n<=m
  .have hnm':(n:Int)<=m:=by omega
   have hc:=ih x.args[k] (jH hk) (m-n) (by omega)
   have wk:=qbb (k:=k) (by omega)
   have hsub:(m:Int)-(n:Int)=((m-n:Nat):Int):=by omega
   have ws:=qan (n:=((m-n:Nat):Int)) (by omega) (by omega)
   have hmin:min x.args[k].nodes (m-n+1)<=257:=by omega
   have wa:=qan (n:=(n:Int)+((min x.args[k].nodes (m-n+1):Nat):Int)) (by omega) (by omega)
   generalize hq:min x.args[k].nodes (m-n+1)=q at *
   simp[L122_0,z2t,List.range,List.range.loop,e1,e2,e5,e6,hk,hk',hnm',hsub,ws,hc,wa,wk]
   exact⟨n+q,rfl,by omega,by omega⟩
  .have hnm':¬((n:Int)<=m):=by omega
   simp[L122_0,z2t,zxh,List.range,List.range.loop,e1,e2,e5,e6,hk',hnm]
   omega
 .rintro⟨s,h⟩ ⟨n,rfl,hl,e1,e2,e5,e6,hn,hkm⟩
  simp only[List.take_length]at hl e1 e2 e5 e6 hn
  have hnx:=qnr x
  rw[qad hl]
  simp[L122_0,zxh,List.range,List.range.loop,e1,e2,e5,e6]
  omega
theorem ev122:∀(x:Ex) (m:Nat),m<=256->ev pg (.call (.fn 122 [] []) [x.v,num m] [])=some { v:=num (min x.nodes (m+1):Nat),st:=⟨[],[]⟩ }:=by
 refine Ex.ind fun x ih m hm=>?_
 rw[qaa,pg122]
 simp[ir122,qah]
 generalize hr:ev pg (.code (.going 1 L122_0) _)=o
 obtain⟨r,rfl,hx,hl,h5⟩:∃r,o=some r/\zxh x m r:=by
  rw[<-hr]
  exact ztg x m hm ih _ ⟨1,by simp,by simp,by simp,by simp,by simp,by simp,by simp[qdj],.inl rfl⟩
 simp[hx,hl,h5]
theorem qfi{x:Ex}(h:x.nodes<=256):x.args.length<=255:=by
 have h1:=qsg x.args
 have h2:=qnr x
 omega
theorem qev{x y:Ex}(h:x.nodes<=256)(hy:y∈x.args):y.nodes<=256:=by
 have h1:=q4x hy
 have h2:=qnr x
 omega
def z2u(x:Ex)(m k:Nat)(st:St):Prop:=st.h=[⟨0,.box x.cells⟩]/\st.s.length=30/\qai st.s 1=num (m+2:Nat)/\qai st.s 2=.bptr 0 0/\qai st.s 5=num k/\∀j y,j<k->x.args[j]?=some y->y.depth<=m+1
def zxi(x:Ex)(m:Nat)(r:R):Prop:=r.st.s.length=30/\((r.x=.exit 0/\x.depth<=m+2)\/(r.x=.ret/\qai r.st.s 4=.bool false/\¬x.depth<=m+2))
theorem qyj{x:Ex}{m:Nat}:x.depth<=m+2<->∀y∈x.args,y.depth<=m+1:=by
 rw[qpz,<-qvh (l:=x.args)]
 omega
theorem zth(x:Ex)(m:Nat)(hm:m<=256)(hx:x.nodes<=256)(ih:∀y∈x.args,∀m:Nat,m<=257->y.nodes<=256->ev pg (.call (.fn 123 [] []) [y.v,num m] [])=some { v:=.bool (decide (y.depth<=m)),st:=⟨[],[]⟩ })(st:St)(h0:z2u x m 0 st):∃r,ev pg (.code (.going 1 L123_0) st)=some r/\zxi x m r:=by
 have hfew:=qfi hx
 refine qau (z2u x m) x.args.length (zxi x m) h0 ?_ ?_
 .rintro k ⟨s,h⟩ hk ⟨rfl,hl,e1,e2,e5,he⟩
  simp only at hl e1 e2 e5
  have hk':(k:Int)<x.args.length:=by omega
  have wk:=qbb (k:=k) (by omega)
  have hmem:=jH hk
  have hc:=ih x.args[k] hmem (m+1) (by omega) (qev hx hmem)
  have hsub:(m:Int)+2-1=(m:Int)+1:=by omega
  have ws:=qbb (k:=m) (by omega)
  simp at hc
  rw[qad hl]
  by_cases hd:x.args[k].depth<=m+1
  .simp[L123_0,z2u,List.range,List.range.loop,e1,e2,e5,hk,hk',hsub,ws,hc,hd,wk]
   intro j y hj hy
   by_cases hjk:j=k
   .subst hjk
    rw[jA hk]at hy
    cases hy
    exact hd
   .exact he j y (by omega) hy
  .have hno:¬x.depth<=m+2:=fun h=>hd (qyj.1 h _ hmem)
   simp[L123_0,z2u,zxi,List.range,List.range.loop,e1,e2,e5,hk,hk',hsub,ws,hc,hd]
   omega
 .rintro⟨s,h⟩ ⟨rfl,hl,e1,e2,e5,he⟩
  simp only at hl e1 e2 e5
  have hyes:x.depth<=m+2:=qyj.2 fun y hy=>by
   obtain⟨j,hj⟩:=List.mem_iff_getElem?.1 hy
   exact he j y (jG.1 hj).1 hj
  rw[qad hl]
  simp[L123_0,zxi,List.range,List.range.loop,e1,e2,e5,hyes]
theorem ev123:∀(x:Ex) (m:Nat),m<=257->x.nodes<=256->ev pg (.call (.fn 123 [] []) [x.v,num m] [])=some { v:=.bool (decide (x.depth<=m)),st:=⟨[],[]⟩ }:=by
 refine Ex.ind fun x ih m hm hx=>?_
 have hp:=qkd x
 rw[qaa,pg123]
 match m with
 | 0 =>
  have:¬x.depth<=0:=by omega
  simp[ir123,this]
 | 1 =>
  have h1:x.depth<=1<->x.args=[]:=by
   rw[qpz]
   constructor
   .intro h
    match hl:x.args with
    | []=>rfl
    | y :: l =>
     rw[hl,qgt]at h
     have:=qkd y
     omega
   .intro h;rw[h];simp[qgt]
  by_cases h2:x.args=[]
  .simp[ir123,h1,h2]
  .have h3:¬x.args.length=0:=fun e=>h2 (List.length_eq_zero_iff.1 e)
   have h4:((x.args.length:Int)==0)=false:=by simp;exact h2
   simp[ir123,h1,h2]
 | m+2 =>
  have hlt:¬((m:Int)+2<1):=by omega
  have hne:¬((m:Int)+2=1):=by omega
  have hne':((m:Int)+2==1)=false:=by simpa using hne
  simp[ir123,hlt,hne',qah]
  generalize hr:ev pg (.code (.going 1 L123_0) _)=o
  obtain⟨r,rfl,hl,hQ⟩:∃r,o=some r/\zxi x m r:=by
   rw[<-hr]
   exact zth x m (by omega) hx ih _ ⟨by simp,by simp,by simp,by simp,by simp,fun j y hj _=>by omega⟩
  rcases hQ with⟨hx,hE⟩ | ⟨hx,h4,hE⟩
  .simp[hx,hl,hE]
  .simp[hx,h4,hE]
def Ex.light(x:Ex):Bool:=decide (x.nodes<=256)&&decide (x.depth<=16)
theorem ev63(x:Ex):ev pg (.call (.fn 63 [] []) [x.v] [])=some { v:=.bool x.light,st:=⟨[],[]⟩ }:=by
 have h1:=ev122 x 256 (by omega)
 rw[qaa,pg63]
 by_cases h:x.nodes<=256
 .have h2:=ev123 x 16 (by omega) h
  have h3:min x.nodes (256+1)=x.nodes:=by omega
  have h4:(x.nodes:Int)<=256:=by omega
  rw[h3]at h1
  simp at h1 h2
  simp[ir63,Ex.light,h1,h2,h,h4]
 .have h3:min x.nodes (256+1)=257:=by omega
  rw[h3]at h1
  simp at h1
  simp[ir63,Ex.light,h1,h]
def qbq(o i:Int)(k:Nat)(n:Int):Int :=
 if o<0\/5<=o then 1 else if(o<=1/\k≠0)\/(o=2/\k≠1)\/(3<=o/\k<2)then 3 else if i<0\/(if o=0 then 2 else if o=1 then n else 1)<=i then 2 else 0
theorem ev274'(o i n:Int)(l:List Ex):ev pg (.call (.fn 274 [] []) [.agg [num o,num i,.imm (l.map Ex.row)],num n] [])=some { v:=num (qbq o i l.length n),st:=⟨[],[]⟩ }:=by
 rw[qaa,pg274]
 by_cases h1:o<0
 .simp[ir274,qbq,h1]
 by_cases h2:5<=o
 .simp[ir274,qbq,h1,h2]
 have hl2:((l.length:Int)<2)<->l.length<2:=by omega
 have hl1:((l.length:Int)=1)<->l.length=1:=by omega
 rcases (by omega:o=0\/o=1\/o=2\/o=3\/o=4)with rfl | rfl | rfl | rfl | rfl
 .by_cases h3:l.length=0
  .by_cases h4:i<0
   .simp[ir274,qbq,h3,h4]
   .by_cases h5:2<=i<;>simp[ir274,qbq,h3,h4,h5]
  .have h3':((l.length:Int) != 0)=true:=by simp;simpa using h3
   simp[ir274,qbq,h3,h3']
 .by_cases h3:l.length=0
  .by_cases h4:i<0
   .simp[ir274,qbq,h3,h4]
   .by_cases h5:n<=i<;>simp[ir274,qbq,h3,h4,h5]
  .have h3':((l.length:Int) != 0)=true:=by simp;simpa using h3
   simp[ir274,qbq,h3,h3']
 .by_cases h3:l.length=1
  .by_cases h4:i<0
   .simp[ir274,qbq,h3,h4]
   .by_cases h5:1<=i<;>simp[ir274,qbq,h3,h4,h5]
  .have h3':((l.length:Int) != 1)=true:=by simp;omega
   simp[ir274,qbq,h3,h3']
 .by_cases h3:l.length<2
  .simp[ir274,qbq,h3,hl2]
  .by_cases h4:i<0
   .simp[ir274,qbq,h3,hl2,h4]
   .by_cases h5:1<=i<;>simp[ir274,qbq,h3,hl2,h4,h5]
 .by_cases h3:l.length<2
  .simp[ir274,qbq,h3,hl2]
  .by_cases h4:i<0
   .simp[ir274,qbq,h3,hl2,h4]
   .by_cases h5:1<=i<;>simp[ir274,qbq,h3,hl2,h4,h5]
theorem ev274(x:Ex)(n:Int):ev pg (.call (.fn 274 [] []) [x.v,num n] [])=some { v:=num (qbq x.op x.idx x.args.length n),st:=⟨[],[]⟩ }:=ev274' x.op x.idx n x.args
mutual
def Ex.err(n:Int):Ex->Int
 | .mk o i l=>if qbq o i l.length n=0 then q3q n l else qbq o i l.length n
def q3q(n:Int):List Ex->Int
 | []=>0
 | x :: l=>if x.err n=0 then q3q n l else x.err n
end
theorem q8y(n:Int)(x:Ex):x.err n=if qbq x.op x.idx x.args.length n=0 then q3q n x.args else qbq x.op x.idx x.args.length n:=by cases x;rw[Ex.err];rfl
theorem zsk{n:Int}{l:List Ex}{k:Nat}(hk:k<l.length):q3q n (l.drop k)=if l[k].err n=0 then q3q n (l.drop (k+1))else l[k].err n:=by
 rw[jL hk,q3q]
def zxd(x:Ex)(n:Int)(k:Nat)(st:St):Prop:=st.h=[⟨0,.box x.cells⟩]/\st.s.length=31/\qai st.s 1=num n/\qai st.s 2=.bptr 0 0/\qai st.s 6=num k/\q3q n x.args=q3q n (x.args.drop k)
def zxn(x:Ex)(n:Int)(r:R):Prop:=r.st.s.length=31/\((r.x=.exit 0/\q3q n x.args=0)\/(r.x=.ret/\qai r.st.s 4=num (q3q n x.args)))
theorem ztp(x:Ex)(n:Int)(hx:x.nodes<=256)(ih:∀y∈x.args,y.nodes<=256->ev pg (.call (.fn 242 [] []) [y.v,num n] [])=some { v:=num (y.err n),st:=⟨[],[]⟩ })(st:St)(h0:zxd x n 0 st):∃r,ev pg (.code (.going 1 L242_0) st)=some r/\zxn x n r:=by
 have hfew:=qfi hx
 refine qau (zxd x n) x.args.length (zxn x n) h0 ?_ ?_
 .rintro k ⟨s,h⟩ hk ⟨rfl,hl,e1,e2,e6,he⟩
  simp only at hl e1 e2 e6
  have hk':(k:Int)<x.args.length:=by omega
  have wk:=qbb (k:=k) (by omega)
  have hmem:=jH hk
  have hc:=ih x.args[k] hmem (qev hx hmem)
  rw[zsk hk]at he
  rw[qad hl]
  by_cases hd:x.args[k].err n=0
  .rw[if_pos hd]at he
   simp[L242_0,zxd,List.range,List.range.loop,e1,e2,e6,hk,hk',hc,hd,wk,he]
  .rw[if_neg hd]at he
   simp[L242_0,zxd,zxn,List.range,List.range.loop,e1,e2,e6,hk,hk',hc,hd,he]
 .rintro⟨s,h⟩ ⟨rfl,hl,e1,e2,e6,he⟩
  simp only[List.drop_length]at hl e1 e2 e6 he
  rw[qad hl]
  simp[L242_0,zxn,List.range,List.range.loop,e1,e2,e6,he,q3q]
theorem ev242(n:Int):∀x:Ex,x.nodes<=256->ev pg (.call (.fn 242 [] []) [x.v,num n] [])=some { v:=num (x.err n),st:=⟨[],[]⟩ }:=by
 refine Ex.ind fun x ih hx=>?_
 have hc:=ev274 x n
 rw[qaa,pg242,q8y]
 by_cases h:qbq x.op x.idx x.args.length n=0
 .simp[ir242,hc,h,qah]
  generalize hr:ev pg (.code (.going 1 L242_0) _)=o
  obtain⟨r,rfl,hl,hQ⟩:∃r,o=some r/\zxn x n r:=by
   rw[<-hr]
   exact ztp x n hx ih _ (by simp[zxd])
  rcases hQ with⟨hx,hE⟩ | ⟨hx,h4⟩
  .simp[hx,hl,hE]
  .simp[hx,h4]
 .simp[ir242,hc,h]
def Ex.check(x:Ex)(n:Int):Int:=if n<0\/256<n then 2 else if x.light=true then x.err n else 5
theorem qdr{x:Ex}(h:x.light=true):x.nodes<=256/\x.depth<=16:=by simpa[Ex.light]using h
theorem ev198(x:Ex)(n:Int):ev pg (.call (.fn 198 [] []) [x.v,num n] [])=some { v:=num (x.check n),st:=⟨[],[]⟩ }:=by
 have hl:=ev63 x
 rw[qaa,pg198]
 by_cases h1:n<0
 .simp[ir198,Ex.check,h1]
 .by_cases h2:256<n
  .simp[ir198,Ex.check,h1,h2]
  .by_cases h3:x.light=true
   .have hc:=ev242 n x (qdr h3).1
    simp[ir198,Ex.check,h1,h2,hl,h3,hc]
   .simp[ir198,Ex.check,h1,h2,hl,h3]
theorem ev278'(o i n:Int)(l:List Ex)(hl:l.length<=256)(hn:0<=n/\n<=256):ev pg (.call (.fn 278 [] []) [.agg [num o,num i,.imm (l.map Ex.row)],num n] [])=some { v:=num (qbq o i l.length n),st:=⟨[],[]⟩ }:=by
 have wn:=qan (n:=n-1) (by omega) (by omega)
 rw[qaa,pg278]
 by_cases h1:o<0
 .simp[ir278,qbq,h1]
 by_cases h2:5<=o
 .simp[ir278,qbq,h1,h2]
 have hl2:((l.length:Int)<2)<->l.length<2:=by omega
 have hneg:¬((l.length:Int)<0):=by omega
 have hg256:¬((256:Int)<(l.length:Int)):=by omega
 rcases (by omega:o=0\/o=1\/o=2\/o=3\/o=4)with rfl | rfl | rfl | rfl | rfl
 .by_cases h3:l.length=0
  .by_cases h4:i<0
   .simp[ir278,qaa,ir280,ir294,qab,exT,qal,qbq,h3,h4]
   .by_cases h5:1<i
    .have h6:2<=i:=by omega
     simp[ir278,qaa,ir280,ir294,qab,exT,qal,qbq,h3,h4,h5,h6]
    .have h6:¬(2<=i):=by omega
     simp[ir278,qaa,ir280,ir294,qab,exT,qal,qbq,h3,h4,h5,h6]
  .have h3':0<l.length:=by omega
   have h3n:l≠[]:=fun e=>h3 (by rw[e];rfl)
   simp[ir278,qaa,ir280,ir294,qab,exT,qal,qbq,h3,h3',hneg]
 .by_cases h3:l.length=0
  .by_cases h4:i<0
   .simp[ir278,qaa,ir280,ir294,qab,exT,qal,qbq,h3,h4,wn]
   .by_cases h5:n-1<i
    .have h6:n<=i:=by omega
     simp[ir278,qaa,ir280,ir294,qab,exT,qal,qbq,h3,h4,h5,h6,wn]
    .have h6:¬(n<=i):=by omega
     simp[ir278,qaa,ir280,ir294,qab,exT,qal,qbq,h3,h4,h5,h6,wn]
  .have h3':0<l.length:=by omega
   have h3n:l≠[]:=fun e=>h3 (by rw[e];rfl)
   simp[ir278,qaa,ir280,ir294,qab,exT,qal,qbq,h3,h3',hneg]
 .by_cases h3:l.length=1
  .by_cases h4:i<0
   .simp[ir278,qaa,ir280,ir294,qab,exT,qal,qbq,h3,h4]
   .by_cases h5:0<i
    .have h6:1<=i:=by omega
     simp[ir278,qaa,ir280,ir294,qab,exT,qal,qbq,h3,h4,h5,h6]
    .have h6:¬(1<=i):=by omega
     simp[ir278,qaa,ir280,ir294,qab,exT,qal,qbq,h3,h4,h5,h6]
  .have h3':((l.length:Int)<1)\/¬((l.length:Int)<1)/\(1:Int)<(l.length:Int):=by omega
   rcases h3' with h3' | ⟨h3',h3n⟩
   .simp[ir278,qaa,ir280,ir294,qab,exT,qal,qbq,h3,h3']
   .simp[ir278,qaa,ir280,ir294,qab,exT,qal,qbq,h3,h3',h3n]
 .by_cases h3:l.length<2
  .simp[ir278,qaa,ir280,ir294,qab,exT,qal,qbq,h3,hl2]
  .by_cases h4:i<0
   .simp[ir278,qaa,ir280,ir294,qab,exT,qal,qbq,h3,h4,hl2,hg256]
   .by_cases h5:0<i
    .have h6:1<=i:=by omega
     simp[ir278,qaa,ir280,ir294,qab,exT,qal,qbq,h3,h4,h5,h6,hl2,hg256]
    .have h6:¬(1<=i):=by omega
     simp[ir278,qaa,ir280,ir294,qab,exT,qal,qbq,h3,h4,h5,h6,hl2,hg256]
 .by_cases h3:l.length<2
  .simp[ir278,qaa,ir280,ir294,qab,exT,qal,qbq,h3,hl2]
  .by_cases h4:i<0
   .simp[ir278,qaa,ir280,ir294,qab,exT,qal,qbq,h3,h4,hl2,hg256]
   .by_cases h5:0<i
    .have h6:1<=i:=by omega
     simp[ir278,qaa,ir280,ir294,qab,exT,qal,qbq,h3,h4,h5,h6,hl2,hg256]
    .have h6:¬(1<=i):=by omega
     simp[ir278,qaa,ir280,ir294,qab,exT,qal,qbq,h3,h4,h5,h6,hl2,hg256]
theorem ev278(x:Ex)(n:Int)(hx:x.nodes<=256)(hn:0<=n/\n<=256):ev pg (.call (.fn 278 [] []) [x.v,num n] [])=some { v:=num (qbq x.op x.idx x.args.length n),st:=⟨[],[]⟩ }:=ev278' x.op x.idx n x.args (by have:=qfi hx;omega) hn
end Go.Proofs.YtbepbclaoohngaaGreat
