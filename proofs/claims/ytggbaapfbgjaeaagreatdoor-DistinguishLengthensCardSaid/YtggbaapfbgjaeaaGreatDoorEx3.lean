/- Expressions, by. -/
import Derived.Test.YtggbaapfbgjaeaaGreatDoorPg8
set_option linter.all false
namespace Go.Proofs.YtggbaapfbgjaeaaGreatDoor
open Go Go.Am Go.Proofs
set_option maxRecDepth 100000
abbrev num(n:Int):V:=.int .i64 n
inductive Ex where
 | mk (op idx:Int) (args:List Ex)
def Ex.op:Ex->Int
 | .mk o _ _=>o
def Ex.idx:Ex->Int
 | .mk _ i _=>i
def Ex.args:Ex->List Ex
 | .mk _ _ l=>l
mutual
def Ex.row:Ex->List V
 | .mk o i l=>[num o,num i,.imm (znx l)]
def znx:List Ex->List (List V)
 | []=>[]
 | x :: l=>x.row :: znx l
end
theorem q5z:∀l:List Ex,znx l=l.map Ex.row
 | []=>rfl
 | x :: l=>by rw[znx,q5z l];rfl
abbrev Ex.cells(x:Ex):List V:=[num x.op,num x.idx,.imm (x.args.map Ex.row)]
abbrev Ex.v(x:Ex):V:=.agg x.cells
@[simp] theorem q0l(x:Ex):x.row=x.cells:=by
 cases x with
 | mk o i l=>rw[Ex.row,q5z];rfl
theorem z1o{x y:Ex}(h:y∈x.args):SizeOf.sizeOf y<SizeOf.sizeOf x:=by
 cases x with
 | mk o i l =>have:=List.sizeOf_lt_of_mem (show y∈l from h);simp only[Ex.mk.sizeOf_spec];omega
theorem Ex.ind{P:Ex->Prop}(h:∀x,(∀y∈x.args,P y)->P x):∀x,P x:=by
 have:∀n (x:Ex),SizeOf.sizeOf x<n->P x:=by
  intro n;induction n with
  | zero=>intro x hx;omega
  | succ n ih=>exact fun x hx=>h x fun y hy=>ih y (by have:=z1o hy;omega)
 exact fun x=>this _ x (Nat.lt_succ_self _)
mutual
def Ex.nodes:Ex->Nat
 | .mk _ _ l=>1+qdh l
def qdh:List Ex->Nat
 | []=>0
 | x :: l=>x.nodes+qdh l
end
mutual
def Ex.depth:Ex->Nat
 | .mk _ _ l=>1+qgu l
def qgu:List Ex->Nat
 | []=>0
 | x :: l=>max x.depth (qgu l)
end
theorem qok(x:Ex):x.nodes=1+qdh x.args:=by cases x;rw[Ex.nodes];rfl
theorem qqq(x:Ex):x.depth=1+qgu x.args:=by cases x;rw[Ex.depth];rfl
theorem qwy(x:Ex):1<=x.nodes:=by rw[qok];omega
theorem qkl(x:Ex):1<=x.depth:=by rw[qqq];omega
theorem qlq:∀a b:List Ex,qdh (a++b)=qdh a+qdh b
 | [],b=>by simp[qdh]
 | x :: a,b=>by rw[List.cons_append,qdh,qdh,qlq a b,Nat.add_assoc]
theorem q7z{l:List Ex}{k:Nat}(hk:k<l.length):qdh (l.take (k+1))=qdh (l.take k)+l[k].nodes:=by rw[jK hk,qlq];simp[qdh]
theorem zin{l:List Ex}(k:Nat):qdh (l.take k)<=qdh l:=by
 conv=>rhs;rw[<-List.take_append_drop k l]
 rw[qlq];omega
theorem qsu:∀l:List Ex,l.length<=qdh l
 | []=>jD _
 | x :: l=>by have h1:=qsu l;have h2:=qwy x;rw[qdh,List.length_cons];omega
theorem q5l:∀{l:List Ex} {y:Ex},y∈l->y.nodes<=qdh l
 | x :: l,y,h=>by
  rw[qdh];rcases List.mem_cons.1 h with rfl | h
  .omega
  .have:=q5l h;omega
theorem qvu{d:Nat}:∀{l:List Ex},qgu l<=d<->∀y∈l,y.depth<=d
 | []=>by simp[qgu]
 | x :: l=>by rw[qgu,List.forall_mem_cons,<-qvu (l:=l)];omega
def zyz(x:Ex)(m k:Nat)(st:St):Prop:=∃n:Nat,st.h=[⟨0,.box x.cells⟩]/\st.s.length=31/\qaj st.s 1=num m/\qaj st.s 2=.bptr 0 0/\qaj st.s 5=num n/\qaj st.s 6=num k/\n=min (1+qdh (x.args.take k)) (m+1)/\(k=0\/1+qdh (x.args.take (k-1))<=m)
def zvp(x:Ex)(m:Nat)(r:R):Prop:=r.x=.exit 0/\r.st.s.length=31/\qaj r.st.s 5=num (min x.nodes (m+1):Nat)
theorem zsc(x:Ex)(m:Nat)(hm:m<=256)(ih:∀y∈x.args,∀m:Nat,m<=256->ev pg (.call (fnq 81) [y.v,num m] [])=some (rvq (num (min y.nodes (m+1):Nat))))(st:St)(h0:zyz x m 0 st):∃r,ev pg (.code (.going 1 L81_0) st)=some r/\zvp x m r:=by
 refine qaw (zyz x m) x.args.length (zvp x m) h0 ?_ ?_
 .rintro k ⟨s,h⟩ hk ⟨n,rfl,hl,e1,e2,e5,e6,hn,hkm⟩;simp only at hl e1 e2 e5 e6;have hk':(k:Int)<x.args.length:=by omega
  have hnt:=q7z hk;have hlen:=qsu (x.args.take k);rw[List.length_take]at hlen;have hle:=zin (l:=x.args) (k+1);have hnx:=qok x;have hnp:=qwy x.args[k];rw[qad hl];by_cases hnm:n<=m
  .have hnm':(n:Int)<=m:=by omega
   have hc:=ih x.args[k] (jH hk) (m-n) (by omega);have wk:=qbi k;have hsub:(m:Int)-(n:Int)=((m-n:Nat):Int):=by omega
   have ws:=qam (n:=((m-n:Nat):Int)) (by omega) (by omega);have hmin:min x.args[k].nodes (m-n+1)<=257:=by omega
   have wa:=qam (n:=(n:Int)+((min x.args[k].nodes (m-n+1):Nat):Int)) (by omega) (by omega);generalize hq:min x.args[k].nodes (m-n+1)=q at *;simp[L81_0,zyz,List.range,List.range.loop,e1,e2,e5,e6,hk,hk',hnm',hsub,ws,hc,wa,wk];exact⟨n+q,rfl,by omega,by omega⟩
  .have hnm':¬((n:Int)<=m):=by omega
   simp[L81_0,zyz,zvp,List.range,List.range.loop,e1,e2,e5,e6,hk',hnm];omega
 .rintro⟨s,h⟩ ⟨n,rfl,hl,e1,e2,e5,e6,hn,hkm⟩;simp only[List.take_length]at hl e1 e2 e5 e6 hn;have hnx:=qok x;rw[qad hl];simp[L81_0,zvp,List.range,List.range.loop,e1,e2,e5,e6];omega
theorem ev81:∀(x:Ex) (m:Nat),m<=256->ev pg (.call (fnq 81) [x.v,num m] [])=some (rvq (num (min x.nodes (m+1):Nat))):=by
 refine Ex.ind fun x ih m hm=>?_;rw[qab,pg81.1];simp[ir81,qah];generalize hr:ev pg (.code (.going 1 L81_0) _)=o;obtain⟨r,rfl,hx,hl,h5⟩:∃r,o=some r/\zvp x m r:=by rw[<-hr];exact zsc x m hm ih _ ⟨1,by simp,by simp,by simp,by simp,by simp,by simp,by simp[qdh],.inl rfl⟩
 simp[hx,hl,h5]
theorem qfj{x:Ex}(h:x.nodes<=256):x.args.length<=255:=by have h1:=qsu x.args;have h2:=qok x;omega
theorem qev{x y:Ex}(h:x.nodes<=256)(hy:y∈x.args):y.nodes<=256:=by have h1:=q5l hy;have h2:=qok x;omega
def zza(x:Ex)(m k:Nat)(st:St):Prop:=st.h=[⟨0,.box x.cells⟩]/\st.s.length=30/\qaj st.s 1=num (m+2:Nat)/\qaj st.s 2=.bptr 0 0/\qaj st.s 5=num k/\∀j y,j<k->x.args[j]?=some y->y.depth<=m+1
def zvq(x:Ex)(m:Nat)(r:R):Prop:=r.st.s.length=30/\((r.x=.exit 0/\x.depth<=m+2)\/(r.x=.ret/\qaj r.st.s 4=.bool false/\¬x.depth<=m+2))
theorem qza{x:Ex}{m:Nat}:x.depth<=m+2<->∀y∈x.args,y.depth<=m+1:=by rw[qqq,<-qvu (l:=x.args)];omega
theorem zsd(x:Ex)(m:Nat)(hm:m<=256)(hx:x.nodes<=256)(ih:∀y∈x.args,∀m:Nat,m<=257->y.nodes<=256->ev pg (.call (fnq 82) [y.v,num m] [])=some (rvq (.bool (decide (y.depth<=m)))))(st:St)(h0:zza x m 0 st):∃r,ev pg (.code (.going 1 L82_0) st)=some r/\zvq x m r:=by
 have hfew:=qfj hx;refine qaw (zza x m) x.args.length (zvq x m) h0 ?_ ?_
 .rintro k ⟨s,h⟩ hk ⟨rfl,hl,e1,e2,e5,he⟩;simp only at hl e1 e2 e5;have hk':(k:Int)<x.args.length:=by omega
  have wk:=qbi k;have hmem:=jH hk;have hc:=ih x.args[k] hmem (m+1) (by omega) (qev hx hmem);have hsub:(m:Int)+2-1=(m:Int)+1:=by omega
  have ws:=qbi m;simp at hc;rw[qad hl];by_cases hd:x.args[k].depth<=m+1
  .simp[L82_0,zza,List.range,List.range.loop,e1,e2,e5,hk,hk',hsub,ws,hc,hd,wk];intro j y hj hy;by_cases hjk:j=k
   .subst hjk;rw[jA hk]at hy;cases hy;exact hd
   .exact he j y (by omega) hy
  .have hno:¬x.depth<=m+2:=fun h=>hd (qza.1 h _ hmem);simp[L82_0,zza,zvq,List.range,List.range.loop,e1,e2,e5,hk,hk',hsub,ws,hc,hd];omega
 .rintro⟨s,h⟩ ⟨rfl,hl,e1,e2,e5,he⟩;simp only at hl e1 e2 e5;have hyes:x.depth<=m+2:=qza.2 fun y hy=>by
   obtain⟨j,hj⟩:=List.mem_iff_getElem?.1 hy;exact he j y (jG.1 hj).1 hj
  rw[qad hl];simp[L82_0,zvq,List.range,List.range.loop,e1,e2,e5,hyes]
theorem ev82:∀(x:Ex) (m:Nat),m<=257->x.nodes<=256->ev pg (.call (fnq 82) [x.v,num m] [])=some (rvq (.bool (decide (x.depth<=m)))):=by
 refine Ex.ind fun x ih m hm hx=>?_;have hp:=qkl x;rw[qab,pg82.1]
 match m with
 | 0 =>
  have:¬x.depth<=0:=by omega
  simp[ir82,this]
 | 1 =>
  have h1:x.depth<=1<->x.args=[]:=by
   rw[qqq];constructor
   .intro h
    match hl:x.args with
    | []=>rfl
    | y :: l =>rw[hl,qgu]at h;have:=qkl y;omega
   .intro h;rw[h];simp[qgu]
  by_cases h2:x.args=[]
  .simp[ir82,h1,h2]
  .have h3:¬x.args.length=0:=fun e=>h2 (List.length_eq_zero_iff.1 e);have h4:((x.args.length:Int)==0)=false:=by simp;exact h2
   simp[ir82,h1,h2]
 | m+2 =>
  have hlt:¬((m:Int)+2<1):=by omega
  have hne:¬((m:Int)+2=1):=by omega
  have hne':((m:Int)+2==1)=false:=by simpa using hne
  simp[ir82,hlt,hne',qah];generalize hr:ev pg (.code (.going 1 L82_0) _)=o;obtain⟨r,rfl,hl,hQ⟩:∃r,o=some r/\zvq x m r:=by rw[<-hr];exact zsd x m (by omega) hx ih _ ⟨by simp,by simp,by simp,by simp,by simp,fun j y hj _=>by omega⟩
  rcases hQ with⟨hx,hE⟩ | ⟨hx,h4,hE⟩
  .simp[hx,hl,hE]
  .simp[hx,h4,hE]
def Ex.light(x:Ex):Bool:=decide (x.nodes<=256)&&decide (x.depth<=16)
theorem ev53(x:Ex):ev pg (.call (fnq 53) [x.v] [])=some (rvq (.bool x.light)):=by
 have h1:=ev81 x 256 (by omega);rw[qab,pg53.1];by_cases h:x.nodes<=256
 .have h2:=ev82 x 16 (by omega) h;have h3:min x.nodes (256+1)=x.nodes:=by omega
  have h4:(x.nodes:Int)<=256:=by omega
  rw[h3]at h1;simp at h1 h2;simp[ir53,Ex.light,h1,h2,h,h4]
 .have h3:min x.nodes (256+1)=257:=by omega
  rw[h3]at h1;simp at h1;simp[ir53,Ex.light,h1,h]
def qbp(o i:Int)(k:Nat)(n:Int):Int :=
 if o<0\/5<=o then 1 else if(o<=1/\k≠0)\/(o=2/\k≠1)\/(3<=o/\k<2)then 3 else if i<0\/(if o=0 then 2 else if o=1 then n else 1)<=i then 2 else 0
theorem ev224'(o i n:Int)(l:List Ex):ev pg (.call (fnq 224) [.agg [num o,num i,.imm (l.map Ex.row)],num n] [])=some (rvq (num (qbp o i l.length n))):=by
 rw[qab,pg224.1];by_cases h1:o<0
 .simp[ir224,qbp,h1]
 by_cases h2:5<=o
 .simp[ir224,qbp,h1,h2]
 have hl2:((l.length:Int)<2)<->l.length<2:=by omega
 have hl1:((l.length:Int)=1)<->l.length=1:=by omega
 rcases (by omega:o=0\/o=1\/o=2\/o=3\/o=4)with rfl | rfl | rfl | rfl | rfl
 .by_cases h3:l.length=0
  .by_cases h4:i<0
   .simp[ir224,qbp,h3,h4]
   .by_cases h5:2<=i<;>simp[ir224,qbp,h3,h4,h5]
  .have h3':((l.length:Int) != 0)=true:=by simp;simpa using h3
   simp[ir224,qbp,h3,h3']
 .by_cases h3:l.length=0
  .by_cases h4:i<0
   .simp[ir224,qbp,h3,h4]
   .by_cases h5:n<=i<;>simp[ir224,qbp,h3,h4,h5]
  .have h3':((l.length:Int) != 0)=true:=by simp;simpa using h3
   simp[ir224,qbp,h3,h3']
 .by_cases h3:l.length=1
  .by_cases h4:i<0
   .simp[ir224,qbp,h3,h4]
   .by_cases h5:1<=i<;>simp[ir224,qbp,h3,h4,h5]
  .have h3':((l.length:Int) != 1)=true:=by simp;omega
   simp[ir224,qbp,h3,h3']
 .by_cases h3:l.length<2
  .simp[ir224,qbp,h3,hl2]
  .by_cases h4:i<0
   .simp[ir224,qbp,h3,hl2,h4]
   .by_cases h5:1<=i<;>simp[ir224,qbp,h3,hl2,h4,h5]
 .by_cases h3:l.length<2
  .simp[ir224,qbp,h3,hl2]
  .by_cases h4:i<0
   .simp[ir224,qbp,h3,hl2,h4]
   .by_cases h5:1<=i<;>simp[ir224,qbp,h3,hl2,h4,h5]
theorem ev224(x:Ex)(n:Int):ev pg (.call (fnq 224) [x.v,num n] [])=some (rvq (num (qbp x.op x.idx x.args.length n))):=ev224' x.op x.idx n x.args
mutual
def Ex.err(n:Int):Ex->Int
 | .mk o i l=>if qbp o i l.length n=0 then q4g n l else qbp o i l.length n
def q4g(n:Int):List Ex->Int
 | []=>0
 | x :: l=>if x.err n=0 then q4g n l else x.err n
end
theorem q9q(n:Int)(x:Ex):x.err n=if qbp x.op x.idx x.args.length n=0 then q4g n x.args else qbp x.op x.idx x.args.length n:=by cases x;rw[Ex.err];rfl
theorem zrg{n:Int}{l:List Ex}{k:Nat}(hk:k<l.length):q4g n (l.drop k)=if l[k].err n=0 then q4g n (l.drop (k+1))else l[k].err n:=by rw[jL hk,q4g]
def zvl(x:Ex)(n:Int)(k:Nat)(st:St):Prop:=st.h=[⟨0,.box x.cells⟩]/\st.s.length=31/\qaj st.s 1=num n/\qaj st.s 2=.bptr 0 0/\qaj st.s 6=num k/\q4g n x.args=q4g n (x.args.drop k)
def zvv(x:Ex)(n:Int)(r:R):Prop:=r.st.s.length=31/\((r.x=.exit 0/\q4g n x.args=0)\/(r.x=.ret/\qaj r.st.s 4=num (q4g n x.args)))
theorem zsl(x:Ex)(n:Int)(hx:x.nodes<=256)(ih:∀y∈x.args,y.nodes<=256->ev pg (.call (fnq 194) [y.v,num n] [])=some (rvq (num (y.err n))))(st:St)(h0:zvl x n 0 st):∃r,ev pg (.code (.going 1 L194_0) st)=some r/\zvv x n r:=by
 have hfew:=qfj hx;refine qaw (zvl x n) x.args.length (zvv x n) h0 ?_ ?_
 .rintro k ⟨s,h⟩ hk ⟨rfl,hl,e1,e2,e6,he⟩;simp only at hl e1 e2 e6;have hk':(k:Int)<x.args.length:=by omega
  have wk:=qbi k;have hmem:=jH hk;have hc:=ih x.args[k] hmem (qev hx hmem);rw[zrg hk]at he;rw[qad hl];by_cases hd:x.args[k].err n=0
  .rw[if_pos hd]at he;simp[L194_0,zvl,List.range,List.range.loop,e1,e2,e6,hk,hk',hc,hd,wk,he]
  .rw[if_neg hd]at he;simp[L194_0,zvl,zvv,List.range,List.range.loop,e1,e2,e6,hk,hk',hc,hd,he]
 .rintro⟨s,h⟩ ⟨rfl,hl,e1,e2,e6,he⟩;simp only[List.drop_length]at hl e1 e2 e6 he;rw[qad hl];simp[L194_0,zvv,List.range,List.range.loop,e1,e2,e6,he,q4g]
theorem ev194(n:Int):∀x:Ex,x.nodes<=256->ev pg (.call (fnq 194) [x.v,num n] [])=some (rvq (num (x.err n))):=by
 refine Ex.ind fun x ih hx=>?_;have hc:=ev224 x n;rw[qab,pg194.1,q9q];by_cases h:qbp x.op x.idx x.args.length n=0
 .simp[ir194,hc,h,qah];generalize hr:ev pg (.code (.going 1 L194_0) _)=o;obtain⟨r,rfl,hl,hQ⟩:∃r,o=some r/\zvv x n r:=by
   rw[<-hr];exact zsl x n hx ih _ (by simp[zvl])
  rcases hQ with⟨hx,hE⟩ | ⟨hx,h4⟩
  .simp[hx,hl,hE]
  .simp[hx,h4]
 .simp[ir194,hc,h]
def Ex.check(x:Ex)(n:Int):Int:=if n<0\/256<n then 2 else if x.light=true then x.err n else 5
theorem qdp{x:Ex}(h:x.light=true):x.nodes<=256/\x.depth<=16:=by simpa[Ex.light]using h
theorem ev143(x:Ex)(n:Int):ev pg (.call (fnq 143) [x.v,num n] [])=some (rvq (num (x.check n))):=by
 have hl:=ev53 x;rw[qab,pg143.1];by_cases h1:n<0
 .simp[ir143,Ex.check,h1]
 .by_cases h2:256<n
  .simp[ir143,Ex.check,h1,h2]
  .by_cases h3:x.light=true
   .have hc:=ev194 n x (qdp h3).1;simp[ir143,Ex.check,h1,h2,hl,h3,hc]
   .simp[ir143,Ex.check,h1,h2,hl,h3]
theorem ev201'(o i n:Int)(l:List Ex)(hl:l.length<=256)(hn:0<=n/\n<=256):ev pg (.call (fnq 201) [.agg [num o,num i,.imm (l.map Ex.row)],num n] [])=some (rvq (num (qbp o i l.length n))):=by
 have wn:=qam (n:=n-1) (by omega) (by omega);rw[qab,pg201.1];by_cases h1:o<0
 .simp[ir201,qbp,h1]
 by_cases h2:5<=o
 .simp[ir201,qbp,h1,h2]
 have hl2:((l.length:Int)<2)<->l.length<2:=by omega
 have hneg:¬((l.length:Int)<0):=by omega
 have hg256:¬((256:Int)<(l.length:Int)):=by omega
 rcases (by omega:o=0\/o=1\/o=2\/o=3\/o=4)with rfl | rfl | rfl | rfl | rfl
 .by_cases h3:l.length=0
  .by_cases h4:i<0
   .simp[ir201,qab,ir231,ir250,qaa,exT,qag,qbp,h3,h4]
   .by_cases h5:1<i
    .have h6:2<=i:=by omega
     simp[ir201,qab,ir231,ir250,qaa,exT,qag,qbp,h3,h4,h5,h6]
    .have h6:¬(2<=i):=by omega
     simp[ir201,qab,ir231,ir250,qaa,exT,qag,qbp,h3,h4,h5,h6]
  .have h3':0<l.length:=by omega
   have h3n:l≠[]:=fun e=>h3 (by rw[e];rfl);simp[ir201,qab,ir231,ir250,qaa,exT,qag,qbp,h3,h3',hneg]
 .by_cases h3:l.length=0
  .by_cases h4:i<0
   .simp[ir201,qab,ir231,ir250,qaa,exT,qag,qbp,h3,h4,wn]
   .by_cases h5:n-1<i
    .have h6:n<=i:=by omega
     simp[ir201,qab,ir231,ir250,qaa,exT,qag,qbp,h3,h4,h5,h6,wn]
    .have h6:¬(n<=i):=by omega
     simp[ir201,qab,ir231,ir250,qaa,exT,qag,qbp,h3,h4,h5,h6,wn]
  .have h3':0<l.length:=by omega
   have h3n:l≠[]:=fun e=>h3 (by rw[e];rfl);simp[ir201,qab,ir231,ir250,qaa,exT,qag,qbp,h3,h3',hneg]
 .by_cases h3:l.length=1
  .by_cases h4:i<0
   .simp[ir201,qab,ir231,ir250,qaa,exT,qag,qbp,h3,h4]
   .by_cases h5:0<i
    .have h6:1<=i:=by omega
     simp[ir201,qab,ir231,ir250,qaa,exT,qag,qbp,h3,h4,h5,h6]
    .have h6:¬(1<=i):=by omega
     simp[ir201,qab,ir231,ir250,qaa,exT,qag,qbp,h3,h4,h5,h6]
  .have h3':((l.length:Int)<1)\/¬((l.length:Int)<1)/\(1:Int)<(l.length:Int):=by omega
   rcases h3' with h3' | ⟨h3',h3n⟩
   .simp[ir201,qab,ir231,ir250,qaa,exT,qag,qbp,h3,h3']
   .simp[ir201,qab,ir231,ir250,qaa,exT,qag,qbp,h3,h3',h3n]
 .by_cases h3:l.length<2
  .simp[ir201,qab,ir231,ir250,qaa,exT,qag,qbp,h3,hl2]
  .by_cases h4:i<0
   .simp[ir201,qab,ir231,ir250,qaa,exT,qag,qbp,h3,h4,hl2,hg256]
   .by_cases h5:0<i
    .have h6:1<=i:=by omega
     simp[ir201,qab,ir231,ir250,qaa,exT,qag,qbp,h3,h4,h5,h6,hl2,hg256]
    .have h6:¬(1<=i):=by omega
     simp[ir201,qab,ir231,ir250,qaa,exT,qag,qbp,h3,h4,h5,h6,hl2,hg256]
 .by_cases h3:l.length<2
  .simp[ir201,qab,ir231,ir250,qaa,exT,qag,qbp,h3,hl2]
  .by_cases h4:i<0
   .simp[ir201,qab,ir231,ir250,qaa,exT,qag,qbp,h3,h4,hl2,hg256]
   .by_cases h5:0<i
    .have h6:1<=i:=by omega
     simp[ir201,qab,ir231,ir250,qaa,exT,qag,qbp,h3,h4,h5,h6,hl2,hg256]
    .have h6:¬(1<=i):=by omega
     simp[ir201,qab,ir231,ir250,qaa,exT,qag,qbp,h3,h4,h5,h6,hl2,hg256]
theorem ev201(x:Ex)(n:Int)(hx:x.nodes<=256)(hn:0<=n/\n<=256):ev pg (.call (fnq 201) [x.v,num n] [])=some (rvq (num (qbp x.op x.idx x.args.length n))):=ev201' x.op x.idx n x.args (by have:=qfj hx;omega) hn
end Go.Proofs.YtggbaapfbgjaeaaGreatDoor
