/- Expressions, by. -/
import Derived.Test.YtggbaapfbgjaeaaGreatDoorFPg8
set_option linter.all false
namespace Go.Proofs.YtggbaapfbgjaeaaGreatDoor
open Go Go.Am Go.Proofs
set_option maxRecDepth 100000
abbrev num(n:Int):V:=.int .i64 n
inductive Ex where
 | mk (op idx:Int) (args:List Ex)
def Ex.op:Ex->Int
 | .mk o _ _=>o
def Ex.idx:Ex->Int
 | .mk _ i _=>i
def Ex.args:Ex->List Ex
 | .mk _ _ l=>l
mutual
def Ex.row:Ex->List V
 | .mk o i l=>[num o,num i,.imm (zox l)]
def zox:List Ex->List (List V)
 | []=>[]
 | x :: l=>x.row :: zox l
end
theorem q6k:∀l:List Ex,zox l=l.map Ex.row
 | []=>rfl
 | x :: l=>by rw[zox,q6k l];rfl
abbrev Ex.cells(x:Ex):List V:=[num x.op,num x.idx,.imm (x.args.map Ex.row)]
abbrev Ex.v(x:Ex):V:=.agg x.cells
@[simp] theorem q0v(x:Ex):x.row=x.cells:=by
 cases x with
 | mk o i l=>rw[Ex.row,q6k];rfl
theorem z2y{x y:Ex}(h:y∈x.args):SizeOf.sizeOf y<SizeOf.sizeOf x:=by
 cases x with
 | mk o i l =>have:=List.sizeOf_lt_of_mem (show y∈l from h);simp only[Ex.mk.sizeOf_spec];omega
theorem Ex.ind{P:Ex->Prop}(h:∀x,(∀y∈x.args,P y)->P x):∀x,P x:=by
 have:∀n (x:Ex),SizeOf.sizeOf x<n->P x:=by
  intro n;induction n with
  | zero=>intro x hx;omega
  | succ n ih=>exact fun x hx=>h x fun y hy=>ih y (by have:=z2y hy;omega)
 exact fun x=>this _ x (Nat.lt_succ_self _)
mutual
def Ex.nodes:Ex->Nat
 | .mk _ _ l=>1+qdj l
def qdj:List Ex->Nat
 | []=>0
 | x :: l=>x.nodes+qdj l
end
mutual
def Ex.depth:Ex->Nat
 | .mk _ _ l=>1+qgv l
def qgv:List Ex->Nat
 | []=>0
 | x :: l=>max x.depth (qgv l)
end
theorem qoq(x:Ex):x.nodes=1+qdj x.args:=by cases x;rw[Ex.nodes];rfl
theorem qqx(x:Ex):x.depth=1+qgv x.args:=by cases x;rw[Ex.depth];rfl
theorem qxm(x:Ex):1<=x.nodes:=by rw[qoq];omega
theorem qkn(x:Ex):1<=x.depth:=by rw[qqx];omega
theorem qlr:∀a b:List Ex,qdj (a++b)=qdj a+qdj b
 | [],b=>by simp[qdj]
 | x :: a,b=>by rw[List.cons_append,qdj,qdj,qlr a b,Nat.add_assoc]
theorem q8l{l:List Ex}{k:Nat}(hk:k<l.length):qdj (l.take (k+1))=qdj (l.take k)+l[k].nodes:=by rw[jK hk,qlr];simp[qdj]
theorem zji{l:List Ex}(k:Nat):qdj (l.take k)<=qdj l:=by
 conv=>rhs;rw[<-List.take_append_drop k l]
 rw[qlr];omega
theorem qte:∀l:List Ex,l.length<=qdj l
 | []=>jD _
 | x :: l=>by have h1:=qte l;have h2:=qxm x;rw[qdj,List.length_cons];omega
theorem q5y:∀{l:List Ex} {y:Ex},y∈l->y.nodes<=qdj l
 | x :: l,y,h=>by
  rw[qdj];rcases List.mem_cons.1 h with rfl | h
  .omega
  .have:=q5y h;omega
theorem qwh{d:Nat}:∀{l:List Ex},qgv l<=d<->∀y∈l,y.depth<=d
 | []=>by simp[qgv]
 | x :: l=>by rw[qgv,List.forall_mem_cons,<-qwh (l:=l)];omega
def z0j(x:Ex)(m k:Nat)(st:St):Prop:=∃n:Nat,st.h=[⟨0,.box x.cells⟩]/\st.s.length=31/\qah st.s 1=num m/\qah st.s 2=.bptr 0 0/\qah st.s 5=num n/\qah st.s 6=num k/\n=min (1+qdj (x.args.take k)) (m+1)/\(k=0\/1+qdj (x.args.take (k-1))<=m)
def zwy(x:Ex)(m:Nat)(r:R):Prop:=r.x=.exit 0/\r.st.s.length=31/\qah r.st.s 5=num (min x.nodes (m+1):Nat)
theorem zti(x:Ex)(m:Nat)(hm:m<=256)(ih:∀y∈x.args,∀m:Nat,m<=256->ev pg (.call (fnq 81) [y.v,num m] [])=some (rvq (num (min y.nodes (m+1):Nat))))(st:St)(h0:z0j x m 0 st):∃r,ev pg (.code (.going 1 L81_0) st)=some r/\zwy x m r:=by
 refine qat (z0j x m) x.args.length (zwy x m) h0 ?_ ?_
 .rintro k ⟨s,h⟩ hk ⟨n,rfl,hl,e1,e2,e5,e6,hn,hkm⟩;simp only at hl e1 e2 e5 e6;have hk':(k:Int)<x.args.length:=by omega
  have hnt:=q8l hk;have hlen:=qte (x.args.take k);rw[List.length_take]at hlen;have hle:=zji (l:=x.args) (k+1);have hnx:=qoq x;have hnp:=qxm x.args[k];rw[qac hl];by_cases hnm:n<=m
  .have hnm':(n:Int)<=m:=by omega
   have hc:=ih x.args[k] (jH hk) (m-n) (by omega);have wk:=qbc k;have hsub:(m:Int)-(n:Int)=((m-n:Nat):Int):=by omega
   have ws:=qam (n:=((m-n:Nat):Int)) (by omega) (by omega);have hmin:min x.args[k].nodes (m-n+1)<=257:=by omega
   have wa:=qam (n:=(n:Int)+((min x.args[k].nodes (m-n+1):Nat):Int)) (by omega) (by omega);generalize hq:min x.args[k].nodes (m-n+1)=q at *;simp[L81_0,z0j,List.range,List.range.loop,e1,e2,e5,e6,hk,hk',hnm',hsub,ws,hc,wa,wk];exact⟨n+q,rfl,by omega,by omega⟩
  .have hnm':¬((n:Int)<=m):=by omega
   simp[L81_0,z0j,zwy,List.range,List.range.loop,e1,e2,e5,e6,hk',hnm];omega
 .rintro⟨s,h⟩ ⟨n,rfl,hl,e1,e2,e5,e6,hn,hkm⟩;simp only[List.take_length]at hl e1 e2 e5 e6 hn;have hnx:=qoq x;rw[qac hl];simp[L81_0,zwy,List.range,List.range.loop,e1,e2,e5,e6];omega
theorem ev81:∀(x:Ex) (m:Nat),m<=256->ev pg (.call (fnq 81) [x.v,num m] [])=some (rvq (num (min x.nodes (m+1):Nat))):=by
 refine Ex.ind fun x ih m hm=>?_;rw[qaa,pg81.1];simp[ir81,qai];generalize hr:ev pg (.code (.going 1 L81_0) _)=o;obtain⟨r,rfl,hx,hl,h5⟩:∃r,o=some r/\zwy x m r:=by rw[<-hr];exact zti x m hm ih _ ⟨1,by simp,by simp,by simp,by simp,by simp,by simp,by simp[qdj],.inl rfl⟩
 simp[hx,hl,h5]
theorem qfk{x:Ex}(h:x.nodes<=256):x.args.length<=255:=by have h1:=qte x.args;have h2:=qoq x;omega
theorem qey{x y:Ex}(h:x.nodes<=256)(hy:y∈x.args):y.nodes<=256:=by have h1:=q5y hy;have h2:=qoq x;omega
def z0k(x:Ex)(m k:Nat)(st:St):Prop:=st.h=[⟨0,.box x.cells⟩]/\st.s.length=30/\qah st.s 1=num (m+2:Nat)/\qah st.s 2=.bptr 0 0/\qah st.s 5=num k/\∀j y,j<k->x.args[j]?=some y->y.depth<=m+1
def zwz(x:Ex)(m:Nat)(r:R):Prop:=r.st.s.length=30/\((r.x=.exit 0/\x.depth<=m+2)\/(r.x=.ret/\qah r.st.s 4=.bool false/\¬x.depth<=m+2))
theorem qzm{x:Ex}{m:Nat}:x.depth<=m+2<->∀y∈x.args,y.depth<=m+1:=by rw[qqx,<-qwh (l:=x.args)];omega
theorem ztj(x:Ex)(m:Nat)(hm:m<=256)(hx:x.nodes<=256)(ih:∀y∈x.args,∀m:Nat,m<=257->y.nodes<=256->ev pg (.call (fnq 82) [y.v,num m] [])=some (rvq (.bool (decide (y.depth<=m)))))(st:St)(h0:z0k x m 0 st):∃r,ev pg (.code (.going 1 L82_0) st)=some r/\zwz x m r:=by
 have hfew:=qfk hx;refine qat (z0k x m) x.args.length (zwz x m) h0 ?_ ?_
 .rintro k ⟨s,h⟩ hk ⟨rfl,hl,e1,e2,e5,he⟩;simp only at hl e1 e2 e5;have hk':(k:Int)<x.args.length:=by omega
  have wk:=qbc k;have hmem:=jH hk;have hc:=ih x.args[k] hmem (m+1) (by omega) (qey hx hmem);have hsub:(m:Int)+2-1=(m:Int)+1:=by omega
  have ws:=qbc m;simp at hc;rw[qac hl];by_cases hd:x.args[k].depth<=m+1
  .simp[L82_0,z0k,List.range,List.range.loop,e1,e2,e5,hk,hk',hsub,ws,hc,hd,wk];intro j y hj hy;by_cases hjk:j=k
   .subst hjk;rw[jA hk]at hy;cases hy;exact hd
   .exact he j y (by omega) hy
  .have hno:¬x.depth<=m+2:=fun h=>hd (qzm.1 h _ hmem);simp[L82_0,z0k,zwz,List.range,List.range.loop,e1,e2,e5,hk,hk',hsub,ws,hc,hd];omega
 .rintro⟨s,h⟩ ⟨rfl,hl,e1,e2,e5,he⟩;simp only at hl e1 e2 e5;have hyes:x.depth<=m+2:=qzm.2 fun y hy=>by
   obtain⟨j,hj⟩:=List.mem_iff_getElem?.1 hy;exact he j y (jG.1 hj).1 hj
  rw[qac hl];simp[L82_0,zwz,List.range,List.range.loop,e1,e2,e5,hyes]
theorem ev82:∀(x:Ex) (m:Nat),m<=257->x.nodes<=256->ev pg (.call (fnq 82) [x.v,num m] [])=some (rvq (.bool (decide (x.depth<=m)))):=by
 refine Ex.ind fun x ih m hm hx=>?_;have hp:=qkn x;rw[qaa,pg82.1]
 match m with
 | 0 =>
  have:¬x.depth<=0:=by omega
  simp[ir82,this]
 | 1 =>
  have h1:x.depth<=1<->x.args=[]:=by
   rw[qqx];constructor
   .intro h
    match hl:x.args with
    | []=>rfl
    | y :: l =>rw[hl,qgv]at h;have:=qkn y;omega
   .intro h;rw[h];simp[qgv]
  by_cases h2:x.args=[]
  .simp[ir82,h1,h2]
  .have h3:¬x.args.length=0:=fun e=>h2 (List.length_eq_zero_iff.1 e);have h4:((x.args.length:Int)==0)=false:=by simp;exact h2
   simp[ir82,h1,h2]
 | m+2 =>
  have hlt:¬((m:Int)+2<1):=by omega
  have hne:¬((m:Int)+2=1):=by omega
  have hne':((m:Int)+2==1)=false:=by simpa using hne
  simp[ir82,hlt,hne',qai];generalize hr:ev pg (.code (.going 1 L82_0) _)=o;obtain⟨r,rfl,hl,hQ⟩:∃r,o=some r/\zwz x m r:=by rw[<-hr];exact ztj x m (by omega) hx ih _ ⟨by simp,by simp,by simp,by simp,by simp,fun j y hj _=>by omega⟩
  rcases hQ with⟨hx,hE⟩ | ⟨hx,h4,hE⟩
  .simp[hx,hl,hE]
  .simp[hx,h4,hE]
def Ex.light(x:Ex):Bool:=decide (x.nodes<=256)&&decide (x.depth<=16)
theorem ev53(x:Ex):ev pg (.call (fnq 53) [x.v] [])=some (rvq (.bool x.light)):=by
 have h1:=ev81 x 256 (by omega);rw[qaa,pg53.1];by_cases h:x.nodes<=256
 .have h2:=ev82 x 16 (by omega) h;have h3:min x.nodes (256+1)=x.nodes:=by omega
  have h4:(x.nodes:Int)<=256:=by omega
  rw[h3]at h1;simp at h1 h2;simp[ir53,Ex.light,h1,h2,h,h4]
 .have h3:min x.nodes (256+1)=257:=by omega
  rw[h3]at h1;simp at h1;simp[ir53,Ex.light,h1,h]
def qbq(o i:Int)(k:Nat)(n:Int):Int :=
 if o<0\/5<=o then 1 else if(o<=1/\k≠0)\/(o=2/\k≠1)\/(3<=o/\k<2)then 3 else if i<0\/(if o=0 then 2 else if o=1 then n else 1)<=i then 2 else 0
theorem ev224'(o i n:Int)(l:List Ex):ev pg (.call (fnq 224) [.agg [num o,num i,.imm (l.map Ex.row)],num n] [])=some (rvq (num (qbq o i l.length n))):=by
 rw[qaa,pg224.1];by_cases h1:o<0
 .simp[ir224,qbq,h1]
 by_cases h2:5<=o
 .simp[ir224,qbq,h1,h2]
 have hl2:((l.length:Int)<2)<->l.length<2:=by omega
 have hl1:((l.length:Int)=1)<->l.length=1:=by omega
 rcases (by omega:o=0\/o=1\/o=2\/o=3\/o=4)with rfl | rfl | rfl | rfl | rfl
 .by_cases h3:l.length=0
  .by_cases h4:i<0
   .simp[ir224,qbq,h3,h4]
   .by_cases h5:2<=i<;>simp[ir224,qbq,h3,h4,h5]
  .have h3':((l.length:Int) != 0)=true:=by simp;simpa using h3
   simp[ir224,qbq,h3,h3']
 .by_cases h3:l.length=0
  .by_cases h4:i<0
   .simp[ir224,qbq,h3,h4]
   .by_cases h5:n<=i<;>simp[ir224,qbq,h3,h4,h5]
  .have h3':((l.length:Int) != 0)=true:=by simp;simpa using h3
   simp[ir224,qbq,h3,h3']
 .by_cases h3:l.length=1
  .by_cases h4:i<0
   .simp[ir224,qbq,h3,h4]
   .by_cases h5:1<=i<;>simp[ir224,qbq,h3,h4,h5]
  .have h3':((l.length:Int) != 1)=true:=by simp;omega
   simp[ir224,qbq,h3,h3']
 .by_cases h3:l.length<2
  .simp[ir224,qbq,h3,hl2]
  .by_cases h4:i<0
   .simp[ir224,qbq,h3,hl2,h4]
   .by_cases h5:1<=i<;>simp[ir224,qbq,h3,hl2,h4,h5]
 .by_cases h3:l.length<2
  .simp[ir224,qbq,h3,hl2]
  .by_cases h4:i<0
   .simp[ir224,qbq,h3,hl2,h4]
   .by_cases h5:1<=i<;>simp[ir224,qbq,h3,hl2,h4,h5]
theorem ev224(x:Ex)(n:Int):ev pg (.call (fnq 224) [x.v,num n] [])=some (rvq (num (qbq x.op x.idx x.args.length n))):=ev224' x.op x.idx n x.args
mutual
def Ex.err(n:Int):Ex->Int
 | .mk o i l=>if qbq o i l.length n=0 then q4q n l else qbq o i l.length n
def q4q(n:Int):List Ex->Int
 | []=>0
 | x :: l=>if x.err n=0 then q4q n l else x.err n
end
theorem zae(n:Int)(x:Ex):x.err n=if qbq x.op x.idx x.args.length n=0 then q4q n x.args else qbq x.op x.idx x.args.length n:=by cases x;rw[Ex.err];rfl
theorem zsk{n:Int}{l:List Ex}{k:Nat}(hk:k<l.length):q4q n (l.drop k)=if l[k].err n=0 then q4q n (l.drop (k+1))else l[k].err n:=by rw[jL hk,q4q]
def zwt(x:Ex)(n:Int)(k:Nat)(st:St):Prop:=st.h=[⟨0,.box x.cells⟩]/\st.s.length=31/\qah st.s 1=num n/\qah st.s 2=.bptr 0 0/\qah st.s 6=num k/\q4q n x.args=q4q n (x.args.drop k)
def zxe(x:Ex)(n:Int)(r:R):Prop:=r.st.s.length=31/\((r.x=.exit 0/\q4q n x.args=0)\/(r.x=.ret/\qah r.st.s 4=num (q4q n x.args)))
theorem ztr(x:Ex)(n:Int)(hx:x.nodes<=256)(ih:∀y∈x.args,y.nodes<=256->ev pg (.call (fnq 194) [y.v,num n] [])=some (rvq (num (y.err n))))(st:St)(h0:zwt x n 0 st):∃r,ev pg (.code (.going 1 L194_0) st)=some r/\zxe x n r:=by
 have hfew:=qfk hx;refine qat (zwt x n) x.args.length (zxe x n) h0 ?_ ?_
 .rintro k ⟨s,h⟩ hk ⟨rfl,hl,e1,e2,e6,he⟩;simp only at hl e1 e2 e6;have hk':(k:Int)<x.args.length:=by omega
  have wk:=qbc k;have hmem:=jH hk;have hc:=ih x.args[k] hmem (qey hx hmem);rw[zsk hk]at he;rw[qac hl];by_cases hd:x.args[k].err n=0
  .rw[if_pos hd]at he;simp[L194_0,zwt,List.range,List.range.loop,e1,e2,e6,hk,hk',hc,hd,wk,he]
  .rw[if_neg hd]at he;simp[L194_0,zwt,zxe,List.range,List.range.loop,e1,e2,e6,hk,hk',hc,hd,he]
 .rintro⟨s,h⟩ ⟨rfl,hl,e1,e2,e6,he⟩;simp only[List.drop_length]at hl e1 e2 e6 he;rw[qac hl];simp[L194_0,zxe,List.range,List.range.loop,e1,e2,e6,he,q4q]
theorem ev194(n:Int):∀x:Ex,x.nodes<=256->ev pg (.call (fnq 194) [x.v,num n] [])=some (rvq (num (x.err n))):=by
 refine Ex.ind fun x ih hx=>?_;have hc:=ev224 x n;rw[qaa,pg194.1,zae];by_cases h:qbq x.op x.idx x.args.length n=0
 .simp[ir194,hc,h,qai];generalize hr:ev pg (.code (.going 1 L194_0) _)=o;obtain⟨r,rfl,hl,hQ⟩:∃r,o=some r/\zxe x n r:=by
   rw[<-hr];exact ztr x n hx ih _ (by simp[zwt])
  rcases hQ with⟨hx,hE⟩ | ⟨hx,h4⟩
  .simp[hx,hl,hE]
  .simp[hx,h4]
 .simp[ir194,hc,h]
def Ex.check(x:Ex)(n:Int):Int:=if n<0\/256<n then 2 else if x.light=true then x.err n else 5
theorem qdq{x:Ex}(h:x.light=true):x.nodes<=256/\x.depth<=16:=by simpa[Ex.light]using h
theorem ev143(x:Ex)(n:Int):ev pg (.call (fnq 143) [x.v,num n] [])=some (rvq (num (x.check n))):=by
 have hl:=ev53 x;rw[qaa,pg143.1];by_cases h1:n<0
 .simp[ir143,Ex.check,h1]
 .by_cases h2:256<n
  .simp[ir143,Ex.check,h1,h2]
  .by_cases h3:x.light=true
   .have hc:=ev194 n x (qdq h3).1;simp[ir143,Ex.check,h1,h2,hl,h3,hc]
   .simp[ir143,Ex.check,h1,h2,hl,h3]
theorem ev201'(o i n:Int)(l:List Ex)(hl:l.length<=256)(hn:0<=n/\n<=256):ev pg (.call (fnq 201) [.agg [num o,num i,.imm (l.map Ex.row)],num n] [])=some (rvq (num (qbq o i l.length n))):=by
 have wn:=qam (n:=n-1) (by omega) (by omega);rw[qaa,pg201.1];by_cases h1:o<0
 .simp[ir201,qbq,h1]
 by_cases h2:5<=o
 .simp[ir201,qbq,h1,h2]
 have hl2:((l.length:Int)<2)<->l.length<2:=by omega
 have hneg:¬((l.length:Int)<0):=by omega
 have hg256:¬((256:Int)<(l.length:Int)):=by omega
 rcases (by omega:o=0\/o=1\/o=2\/o=3\/o=4)with rfl | rfl | rfl | rfl | rfl
 .by_cases h3:l.length=0
  .by_cases h4:i<0
   .simp[ir201,qaa,ir231,ir250,qab,exT,qag,qbq,h3,h4]
   .by_cases h5:1<i
    .have h6:2<=i:=by omega
     simp[ir201,qaa,ir231,ir250,qab,exT,qag,qbq,h3,h4,h5,h6]
    .have h6:¬(2<=i):=by omega
     simp[ir201,qaa,ir231,ir250,qab,exT,qag,qbq,h3,h4,h5,h6]
  .have h3':0<l.length:=by omega
   have h3n:l≠[]:=fun e=>h3 (by rw[e];rfl);simp[ir201,qaa,ir231,ir250,qab,exT,qag,qbq,h3,h3',hneg]
 .by_cases h3:l.length=0
  .by_cases h4:i<0
   .simp[ir201,qaa,ir231,ir250,qab,exT,qag,qbq,h3,h4,wn]
   .by_cases h5:n-1<i
    .have h6:n<=i:=by omega
     simp[ir201,qaa,ir231,ir250,qab,exT,qag,qbq,h3,h4,h5,h6,wn]
    .have h6:¬(n<=i):=by omega
     simp[ir201,qaa,ir231,ir250,qab,exT,qag,qbq,h3,h4,h5,h6,wn]
  .have h3':0<l.length:=by omega
   have h3n:l≠[]:=fun e=>h3 (by rw[e];rfl);simp[ir201,qaa,ir231,ir250,qab,exT,qag,qbq,h3,h3',hneg]
 .by_cases h3:l.length=1
  .by_cases h4:i<0
   .simp[ir201,qaa,ir231,ir250,qab,exT,qag,qbq,h3,h4]
   .by_cases h5:0<i
    .have h6:1<=i:=by omega
     simp[ir201,qaa,ir231,ir250,qab,exT,qag,qbq,h3,h4,h5,h6]
    .have h6:¬(1<=i):=by omega
     simp[ir201,qaa,ir231,ir250,qab,exT,qag,qbq,h3,h4,h5,h6]
  .have h3':((l.length:Int)<1)\/¬((l.length:Int)<1)/\(1:Int)<(l.length:Int):=by omega
   rcases h3' with h3' | ⟨h3',h3n⟩
   .simp[ir201,qaa,ir231,ir250,qab,exT,qag,qbq,h3,h3']
   .simp[ir201,qaa,ir231,ir250,qab,exT,qag,qbq,h3,h3',h3n]
 .by_cases h3:l.length<2
  .simp[ir201,qaa,ir231,ir250,qab,exT,qag,qbq,h3,hl2]
  .by_cases h4:i<0
   .simp[ir201,qaa,ir231,ir250,qab,exT,qag,qbq,h3,h4,hl2,hg256]
   .by_cases h5:0<i
    .have h6:1<=i:=by omega
     simp[ir201,qaa,ir231,ir250,qab,exT,qag,qbq,h3,h4,h5,h6,hl2,hg256]
    .have h6:¬(1<=i):=by omega
     simp[ir201,qaa,ir231,ir250,qab,exT,qag,qbq,h3,h4,h5,h6,hl2,hg256]
 .by_cases h3:l.length<2
  .simp[ir201,qaa,ir231,ir250,qab,exT,qag,qbq,h3,hl2]
  .by_cases h4:i<0
   .simp[ir201,qaa,ir231,ir250,qab,exT,qag,qbq,h3,h4,hl2,hg256]
   .by_cases h5:0<i
    .have h6:1<=i:=by omega
     simp[ir201,qaa,ir231,ir250,qab,exT,qag,qbq,h3,h4,h5,h6,hl2,hg256]
    .have h6:¬(1<=i):=by omega
     simp[ir201,qaa,ir231,ir250,qab,exT,qag,qbq,h3,h4,h5,h6,hl2,hg256]
theorem ev201(x:Ex)(n:Int)(hx:x.nodes<=256)(hn:0<=n/\n<=256):ev pg (.call (fnq 201) [x.v,num n] [])=some (rvq (num (qbq x.op x.idx x.args.length n))):=ev201' x.op x.idx n x.args (by have:=qfk hx;omega) hn
end Go.Proofs.YtggbaapfbgjaeaaGreatDoor
