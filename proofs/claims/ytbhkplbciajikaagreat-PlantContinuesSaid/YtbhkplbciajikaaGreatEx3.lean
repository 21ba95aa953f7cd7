/- Expressions: how many nodes they have, and how deep they are, by the reference. Expressions, by the reference: depth, light ones, errors. Expressions, by the program: a node alone. -/
import Derived.Test.YtbhkplbciajikaaGreatPg4
set_option linter.all false
namespace Go.Proofs.YtbhkplbciajikaaGreat
open Go Go.Am Go.Proofs
set_option maxRecDepth 100000
abbrev num (n:Int):V:=.int .i64 n
inductive Ex where
 | mk (op idx:Int) (args:List Ex)
def Ex.op:Ex→Int
 | .mk o _ _=>o
def Ex.idx:Ex→Int
 | .mk _ i _=>i
def Ex.args:Ex→List Ex
 | .mk _ _ l=>l
mutual
def Ex.row:Ex→List V
 | .mk o i l=>[num o,num i,.imm (rowsX l)]
def rowsX:List Ex→List (List V)
 | []=>[]
 | x :: l=>x.row :: rowsX l
end
theorem rowsX_map:∀ l:List Ex,rowsX l=l.map Ex.row
 | []=>rfl
 | x :: l=>by rw [rowsX,rowsX_map l]; rfl
abbrev Ex.cells (x:Ex):List V:=[num x.op,num x.idx,.imm (x.args.map Ex.row)]
abbrev Ex.v (x:Ex):V:=.agg x.cells
@[simp] theorem row_eq (x:Ex):x.row=x.cells:=by
 cases x with
 | mk o i l=>rw [Ex.row,rowsX_map]; rfl
theorem ex_lt {x y:Ex} (h:y ∈ x.args):SizeOf.sizeOf y < SizeOf.sizeOf x:=by
 cases x with
 | mk o i l =>
  have:=List.sizeOf_lt_of_mem (show y ∈ l from h)
  simp only [Ex.mk.sizeOf_spec]
  omega
theorem Ex.ind {P:Ex→Prop} (h:∀ x,(∀ y ∈ x.args,P y)→P x):∀ x,P x:=by
 have:∀ n (x:Ex),SizeOf.sizeOf x < n→P x:=by
  intro n
  induction n with
  | zero=>intro x hx; omega
  | succ n ih=>exact fun x hx=>h x fun y hy=>ih y (by have:=ex_lt hy; omega)
 exact fun x=>this _ x (Nat.lt_succ_self _)
mutual
def Ex.nodes:Ex→Nat
 | .mk _ _ l=>1 + nodesL l
def nodesL:List Ex→Nat
 | []=>0
 | x :: l=>x.nodes + nodesL l
end
mutual
def Ex.depth:Ex→Nat
 | .mk _ _ l=>1 + depthL l
def depthL:List Ex→Nat
 | []=>0
 | x :: l=>max x.depth (depthL l)
end
theorem nodes_eq (x:Ex):x.nodes=1 + nodesL x.args:=by cases x; rw [Ex.nodes]; rfl
theorem depth_eq (x:Ex):x.depth=1 + depthL x.args:=by cases x; rw [Ex.depth]; rfl
theorem nodes_pos (x:Ex):1≤x.nodes:=by rw [nodes_eq]; omega
theorem depth_pos (x:Ex):1≤x.depth:=by rw [depth_eq]; omega
theorem nodesL_append:∀ a b:List Ex,nodesL (a++b)=nodesL a + nodesL b
 | [],b=>by simp [nodesL]
 | x :: a,b=>by rw [List.cons_append,nodesL,nodesL,nodesL_append a b,Nat.add_assoc]
theorem nodesL_take {l:List Ex} {k:Nat} (hk:k < l.length):nodesL (l.take (k + 1))=nodesL (l.take k) + l[k].nodes:=by
 rw [List.take_succ_eq_append_getElem hk,nodesL_append]
 simp [nodesL]
theorem nodesL_le {l:List Ex} (k:Nat):nodesL (l.take k)≤nodesL l:=by
 conv=>rhs; rw [← List.take_append_drop k l]
 rw [nodesL_append]
 omega
theorem nodesL_len:∀ l:List Ex,l.length≤nodesL l
 | []=>Nat.le_refl _
 | x :: l=>by
  have h1:=nodesL_len l
  have h2:=nodes_pos x
  rw [nodesL,List.length_cons]
  omega
theorem nodes_mem:∀ {l:List Ex} {y:Ex},y ∈ l→y.nodes≤nodesL l
 | x :: l,y,h=>by
  rw [nodesL]
  rcases List.mem_cons.1 h with rfl | h
  ·omega
  ·have:=nodes_mem h
   omega
theorem depthL_le {d:Nat}:∀ {l:List Ex},depthL l≤d ↔ ∀ y ∈ l,y.depth≤d
 | []=>by simp [depthL]
 | x :: l=>by
  rw [depthL,List.forall_mem_cons,← depthL_le (l:=l)]
  omega
def I110 (x:Ex) (m k:Nat) (st:St):Prop:=∃ n:Nat,st.h=[⟨0,.box x.cells⟩]∧st.s.length=31∧getS st.s 1=num m∧getS st.s 2=.bptr 0 0∧getS st.s 5=num n∧getS st.s 6=num k∧n=min (1 + nodesL (x.args.take k)) (m + 1)∧(k=0∨1 + nodesL (x.args.take (k - 1))≤m)
def Q110 (x:Ex) (m:Nat) (r:R):Prop:=r.x=.exit 0∧r.st.s.length=31∧getS r.st.s 5=num (min x.nodes (m + 1):Nat)
theorem loop110 (x:Ex) (m:Nat) (hm:m≤256) (ih:∀ y ∈ x.args,∀ m:Nat,m≤256→ev pg (.call (.fn 96 [] []) [y.v,num m] [])=some { v:=num (min y.nodes (m + 1):Nat),st:=⟨[],[]⟩ }) (st:St) (h0:I110 x m 0 st):∃ r,ev pg (.code (.going 1 L96_0) st)=some r∧Q110 x m r:=by
 refine loop_from (I110 x m) x.args.length (Q110 x m) h0 ?_ ?_
 ·rintro k ⟨s,h⟩ hk ⟨n,rfl,hl,e1,e2,e5,e6,hn,hkm⟩
  simp only at hl e1 e2 e5 e6
  have hk':(k:Int) < x.args.length:=by omega
  have hnt:=nodesL_take hk
  have hlen:=nodesL_len (x.args.take k)
  rw [List.length_take] at hlen
  have hle:=nodesL_le (l:=x.args) (k + 1)
  have hnx:=nodes_eq x
  have hnp:=nodes_pos x.args[k]
  rw [getS_expand hl]
  by_cases hnm:n≤m
  ·have hnm':(n:Int)≤m:=by omega
   have hc:=ih x.args[k] (List.getElem_mem hk) (m - n) (by omega)
   have wk:=wrap_id (n:=(k:Int) + 1) (by omega) (by omega)
   have hsub:(m:Int) - (n:Int)=((m - n:Nat):Int):=by omega
   have ws:=wrap_id (n:=((m - n:Nat):Int)) (by omega) (by omega)
   have hmin:min x.args[k].nodes (m - n + 1)≤257:=by omega
   have wa:=wrap_id (n:=(n:Int) + ((min x.args[k].nodes (m - n + 1):Nat):Int)) (by omega) (by omega)
   generalize hq:min x.args[k].nodes (m - n + 1)=q at *
   simp [L96_0,I110,List.range,List.range.loop,e1,e2,e5,e6,hk,hk',hnm',hsub,ws,hc,wa,wk]
   exact ⟨n + q,rfl,by omega,by omega⟩
  ·have hnm':¬ ((n:Int)≤m):=by omega
   simp [L96_0,I110,Q110,List.range,List.range.loop,e1,e2,e5,e6,hk',hnm]
   omega
 ·rintro ⟨s,h⟩ ⟨n,rfl,hl,e1,e2,e5,e6,hn,hkm⟩
  simp only [List.take_length] at hl e1 e2 e5 e6 hn
  have hnx:=nodes_eq x
  rw [getS_expand hl]
  simp [L96_0,Q110,List.range,List.range.loop,e1,e2,e5,e6]
  omega
theorem ev96:∀ (x:Ex) (m:Nat),m≤256→ev pg (.call (.fn 96 [] []) [x.v,num m] [])=some { v:=num (min x.nodes (m + 1):Nat),st:=⟨[],[]⟩ }:=by
 refine Ex.ind fun x ih m hm=>?_
 rw [ev_call,pg96]
 simp [ir96,ev_loop]
 generalize hr:ev pg (.code (.going 1 L96_0) _)=o
 obtain ⟨r,rfl,hx,hl,h5⟩:∃ r,o=some r∧Q110 x m r:=by
  rw [← hr]
  exact loop110 x m hm ih _ ⟨1,by simp,by simp,by simp,by simp,by simp,by simp,by simp [nodesL],.inl rfl⟩
 simp [hx,hl,h5]
theorem args_few {x:Ex} (h:x.nodes≤256):x.args.length≤255:=by
 have h1:=nodesL_len x.args
 have h2:=nodes_eq x
 omega
theorem args_nodes {x y:Ex} (h:x.nodes≤256) (hy:y ∈ x.args):y.nodes≤256:=by
 have h1:=nodes_mem hy
 have h2:=nodes_eq x
 omega
def I111 (x:Ex) (m k:Nat) (st:St):Prop:=st.h=[⟨0,.box x.cells⟩]∧st.s.length=30∧getS st.s 1=num (m + 2:Nat)∧getS st.s 2=.bptr 0 0∧getS st.s 5=num k∧∀ j y,j < k→x.args[j]?=some y→y.depth≤m + 1
def Q111 (x:Ex) (m:Nat) (r:R):Prop:=r.st.s.length=30∧((r.x=.exit 0∧x.depth≤m + 2)∨(r.x=.ret∧getS r.st.s 4=.bool false∧¬ x.depth≤m + 2))
theorem depth_args {x:Ex} {m:Nat}:x.depth≤m + 2 ↔ ∀ y ∈ x.args,y.depth≤m + 1:=by
 rw [depth_eq,← depthL_le (l:=x.args)]
 omega
theorem loop111 (x:Ex) (m:Nat) (hm:m≤256) (hx:x.nodes≤256) (ih:∀ y ∈ x.args,∀ m:Nat,m≤257→y.nodes≤256→ev pg (.call (.fn 97 [] []) [y.v,num m] [])=some { v:=.bool (decide (y.depth≤m)),st:=⟨[],[]⟩ }) (st:St) (h0:I111 x m 0 st):∃ r,ev pg (.code (.going 1 L97_0) st)=some r∧Q111 x m r:=by
 have hfew:=args_few hx
 refine loop_from (I111 x m) x.args.length (Q111 x m) h0 ?_ ?_
 ·rintro k ⟨s,h⟩ hk ⟨rfl,hl,e1,e2,e5,he⟩
  simp only at hl e1 e2 e5
  have hk':(k:Int) < x.args.length:=by omega
  have wk:=wrap_id (n:=(k:Int) + 1) (by omega) (by omega)
  have hmem:=List.getElem_mem hk
  have hc:=ih x.args[k] hmem (m + 1) (by omega) (args_nodes hx hmem)
  have hsub:(m:Int) + 2 - 1=(m:Int) + 1:=by omega
  have ws:=wrap_id (n:=(m:Int) + 1) (by omega) (by omega)
  simp at hc
  rw [getS_expand hl]
  by_cases hd:x.args[k].depth≤m + 1
  ·simp [L97_0,I111,List.range,List.range.loop,e1,e2,e5,hk,hk',hsub,ws,hc,hd,wk]
   intro j y hj hy
   by_cases hjk:j=k
   ·subst hjk
    rw [List.getElem?_eq_getElem hk] at hy
    cases hy
    exact hd
   ·exact he j y (by omega) hy
  ·have hno:¬ x.depth≤m + 2:=fun h=>hd (depth_args.1 h _ hmem)
   simp [L97_0,I111,Q111,List.range,List.range.loop,e1,e2,e5,hk,hk',hsub,ws,hc,hd]
   omega
 ·rintro ⟨s,h⟩ ⟨rfl,hl,e1,e2,e5,he⟩
  simp only at hl e1 e2 e5
  have hyes:x.depth≤m + 2:=depth_args.2 fun y hy=>by
   obtain ⟨j,hj⟩:=List.mem_iff_getElem?.1 hy
   exact he j y (List.getElem?_eq_some_iff.1 hj).1 hj
  rw [getS_expand hl]
  simp [L97_0,Q111,List.range,List.range.loop,e1,e2,e5,hyes]
theorem ev97:∀ (x:Ex) (m:Nat),m≤257→x.nodes≤256→ev pg (.call (.fn 97 [] []) [x.v,num m] [])=some { v:=.bool (decide (x.depth≤m)),st:=⟨[],[]⟩ }:=by
 refine Ex.ind fun x ih m hm hx=>?_
 have hp:=depth_pos x
 rw [ev_call,pg97]
 match m with
 | 0 =>
  have:¬ x.depth≤0:=by omega
  simp [ir97,this]
 | 1 =>
  have h1:x.depth≤1 ↔ x.args=[]:=by
   rw [depth_eq]
   constructor
   ·intro h
    match hl:x.args with
    | []=>rfl
    | y :: l =>
     rw [hl,depthL] at h
     have:=depth_pos y
     omega
   ·intro h; rw [h]; simp [depthL]
  by_cases h2:x.args=[]
  ·simp [ir97,h1,h2]
  ·have h3:¬ x.args.length=0:=fun e=>h2 (List.length_eq_zero_iff.1 e)
   have h4:((x.args.length:Int) == 0)=false:=by simp; exact h2
   simp [ir97,h1,h2]
 | m + 2 =>
  have hlt:¬ ((m:Int) + 2 < 1):=by omega
  have hne:¬ ((m:Int) + 2=1):=by omega
  have hne':((m:Int) + 2 == 1)=false:=by simpa using hne
  simp [ir97,hlt,hne',ev_loop]
  generalize hr:ev pg (.code (.going 1 L97_0) _)=o
  obtain ⟨r,rfl,hl,hQ⟩:∃ r,o=some r∧Q111 x m r:=by
   rw [← hr]
   exact loop111 x m (by omega) hx ih _ ⟨by simp,by simp,by simp,by simp,by simp,fun j y hj _=>by omega⟩
  rcases hQ with ⟨hx,hE⟩ | ⟨hx,h4,hE⟩
  ·simp [hx,hl,hE]
  ·simp [hx,h4,hE]
def Ex.light (x:Ex):Bool:=decide (x.nodes≤256) && decide (x.depth≤16)
theorem ev68 (x:Ex):ev pg (.call (.fn 68 [] []) [x.v] [])=some { v:=.bool x.light,st:=⟨[],[]⟩ }:=by
 have h1:=ev96 x 256 (by omega)
 rw [ev_call,pg68]
 by_cases h:x.nodes≤256
 ·have h2:=ev97 x 16 (by omega) h
  have h3:min x.nodes (256 + 1)=x.nodes:=by omega
  have h4:(x.nodes:Int)≤256:=by omega
  rw [h3] at h1
  simp at h1 h2
  simp [ir68,Ex.light,h1,h2,h,h4]
 ·have h3:min x.nodes (256 + 1)=257:=by omega
  rw [h3] at h1
  simp at h1
  simp [ir68,Ex.light,h1,h]
def nodeE (o i:Int) (k:Nat) (n:Int):Int :=
 if o < 0∨5≤o then 1 else if (o≤1∧k ≠ 0)∨(o=2∧k ≠ 1)∨(3≤o∧k < 2) then 3 else if i < 0∨(if o=0 then 2 else if o=1 then n else 1)≤i then 2 else 0
theorem ev154' (o i n:Int) (l:List Ex):ev pg (.call (.fn 154 [] []) [.agg [num o,num i,.imm (l.map Ex.row)],num n] [])=some { v:=num (nodeE o i l.length n),st:=⟨[],[]⟩ }:=by
 rw [ev_call,pg154]
 by_cases h1:o < 0
 ·simp [ir154,nodeE,h1]
 by_cases h2:5≤o
 ·simp [ir154,nodeE,h1,h2]
 have hl2:((l.length:Int) < 2) ↔ l.length < 2:=by omega
 have hl1:((l.length:Int)=1) ↔ l.length=1:=by omega
 rcases (by omega:o=0∨o=1∨o=2∨o=3∨o=4) with rfl | rfl | rfl | rfl | rfl
 ·by_cases h3:l.length=0
  ·by_cases h4:i < 0
   ·simp [ir154,nodeE,h3,h4]
   ·by_cases h5:2≤i <;> simp [ir154,nodeE,h3,h4,h5]
  ·have h3':((l.length:Int) != 0)=true:=by simp; simpa using h3
   simp [ir154,nodeE,h3,h3']
 ·by_cases h3:l.length=0
  ·by_cases h4:i < 0
   ·simp [ir154,nodeE,h3,h4]
   ·by_cases h5:n≤i <;> simp [ir154,nodeE,h3,h4,h5]
  ·have h3':((l.length:Int) != 0)=true:=by simp; simpa using h3
   simp [ir154,nodeE,h3,h3']
 ·by_cases h3:l.length=1
  ·by_cases h4:i < 0
   ·simp [ir154,nodeE,h3,h4]
   ·by_cases h5:1≤i <;> simp [ir154,nodeE,h3,h4,h5]
  ·have h3':((l.length:Int) != 1)=true:=by simp; omega
   simp [ir154,nodeE,h3,h3']
 ·by_cases h3:l.length < 2
  ·simp [ir154,nodeE,h3,hl2]
  ·by_cases h4:i < 0
   ·simp [ir154,nodeE,h3,hl2,h4]
   ·by_cases h5:1≤i <;> simp [ir154,nodeE,h3,hl2,h4,h5]
 ·by_cases h3:l.length < 2
  ·simp [ir154,nodeE,h3,hl2]
  ·by_cases h4:i < 0
   ·simp [ir154,nodeE,h3,hl2,h4]
   ·by_cases h5:1≤i <;> simp [ir154,nodeE,h3,hl2,h4,h5]
theorem ev154 (x:Ex) (n:Int):ev pg (.call (.fn 154 [] []) [x.v,num n] [])=some { v:=num (nodeE x.op x.idx x.args.length n),st:=⟨[],[]⟩ }:=ev154' x.op x.idx n x.args
mutual
def Ex.err (n:Int):Ex→Int
 | .mk o i l=>if nodeE o i l.length n=0 then errL n l else nodeE o i l.length n
def errL (n:Int):List Ex→Int
 | []=>0
 | x :: l=>if x.err n=0 then errL n l else x.err n
end
theorem err_eq (n:Int) (x:Ex):x.err n=if nodeE x.op x.idx x.args.length n=0 then errL n x.args else nodeE x.op x.idx x.args.length n:=by cases x; rw [Ex.err]; rfl
theorem errL_at {n:Int} {l:List Ex} {k:Nat} (hk:k < l.length):errL n (l.drop k)=if l[k].err n=0 then errL n (l.drop (k + 1)) else l[k].err n:=by
 rw [List.drop_eq_getElem_cons hk,errL]
def I185 (x:Ex) (n:Int) (k:Nat) (st:St):Prop:=st.h=[⟨0,.box x.cells⟩]∧st.s.length=31∧getS st.s 1=num n∧getS st.s 2=.bptr 0 0∧getS st.s 6=num k∧errL n x.args=errL n (x.args.drop k)
def Q185 (x:Ex) (n:Int) (r:R):Prop:=r.st.s.length=31∧((r.x=.exit 0∧errL n x.args=0)∨(r.x=.ret∧getS r.st.s 4=num (errL n x.args)))
theorem loop185 (x:Ex) (n:Int) (hx:x.nodes≤256) (ih:∀ y ∈ x.args,y.nodes≤256→ev pg (.call (.fn 132 [] []) [y.v,num n] [])=some { v:=num (y.err n),st:=⟨[],[]⟩ }) (st:St) (h0:I185 x n 0 st):∃ r,ev pg (.code (.going 1 L132_0) st)=some r∧Q185 x n r:=by
 have hfew:=args_few hx
 refine loop_from (I185 x n) x.args.length (Q185 x n) h0 ?_ ?_
 ·rintro k ⟨s,h⟩ hk ⟨rfl,hl,e1,e2,e6,he⟩
  simp only at hl e1 e2 e6
  have hk':(k:Int) < x.args.length:=by omega
  have wk:=wrap_id (n:=(k:Int) + 1) (by omega) (by omega)
  have hmem:=List.getElem_mem hk
  have hc:=ih x.args[k] hmem (args_nodes hx hmem)
  rw [errL_at hk] at he
  rw [getS_expand hl]
  by_cases hd:x.args[k].err n=0
  ·rw [if_pos hd] at he
   simp [L132_0,I185,List.range,List.range.loop,e1,e2,e6,hk,hk',hc,hd,wk,he]
  ·rw [if_neg hd] at he
   simp [L132_0,I185,Q185,List.range,List.range.loop,e1,e2,e6,hk,hk',hc,hd,he]
 ·rintro ⟨s,h⟩ ⟨rfl,hl,e1,e2,e6,he⟩
  simp only [List.drop_length] at hl e1 e2 e6 he
  rw [getS_expand hl]
  simp [L132_0,Q185,List.range,List.range.loop,e1,e2,e6,he,errL]
theorem ev132 (n:Int):∀ x:Ex,x.nodes≤256→ev pg (.call (.fn 132 [] []) [x.v,num n] [])=some { v:=num (x.err n),st:=⟨[],[]⟩ }:=by
 refine Ex.ind fun x ih hx=>?_
 have hc:=ev154 x n
 rw [ev_call,pg132,err_eq]
 by_cases h:nodeE x.op x.idx x.args.length n=0
 ·simp [ir132,hc,h,ev_loop]
  generalize hr:ev pg (.code (.going 1 L132_0) _)=o
  obtain ⟨r,rfl,hl,hQ⟩:∃ r,o=some r∧Q185 x n r:=by
   rw [← hr]
   exact loop185 x n hx ih _ (by simp [I185])
  rcases hQ with ⟨hx,hE⟩ | ⟨hx,h4⟩
  ·simp [hx,hl,hE]
  ·simp [hx,h4]
 ·simp [ir132,hc,h]
def Ex.check (x:Ex) (n:Int):Int:=if n < 0∨256 < n then 2 else if x.light=true then x.err n else 5
theorem light_nodes {x:Ex} (h:x.light=true):x.nodes≤256∧x.depth≤16:=by simpa [Ex.light] using h
theorem ev101 (x:Ex) (n:Int):ev pg (.call (.fn 101 [] []) [x.v,num n] [])=some { v:=num (x.check n),st:=⟨[],[]⟩ }:=by
 have hl:=ev68 x
 rw [ev_call,pg101]
 by_cases h1:n < 0
 ·simp [ir101,Ex.check,h1]
 ·by_cases h2:256 < n
  ·simp [ir101,Ex.check,h1,h2]
  ·by_cases h3:x.light=true
   ·have hc:=ev132 n x (light_nodes h3).1
    simp [ir101,Ex.check,h1,h2,hl,h3,hc]
   ·simp [ir101,Ex.check,h1,h2,hl,h3]
theorem ev169' (o i n:Int) (l:List Ex) (hl:l.length≤256) (hn:0≤n∧n≤256):ev pg (.call (.fn 169 [] []) [.agg [num o,num i,.imm (l.map Ex.row)],num n] [])=some { v:=num (nodeE o i l.length n),st:=⟨[],[]⟩ }:=by
 have wn:=wrap_id (n:=n - 1) (by omega) (by omega)
 rw [ev_call,pg169]
 by_cases h1:o < 0
 ·simp [ir169,nodeE,h1]
 by_cases h2:5≤o
 ·simp [ir169,nodeE,h1,h2]
 have hl2:((l.length:Int) < 2) ↔ l.length < 2:=by omega
 have hneg:¬ ((l.length:Int) < 0):=by omega
 have hg256:¬ ((256:Int) < (l.length:Int)):=by omega
 rcases (by omega:o=0∨o=1∨o=2∨o=3∨o=4) with rfl | rfl | rfl | rfl | rfl
 ·by_cases h3:l.length=0
  ·by_cases h4:i < 0
   ·simp [ir169,ev_call,ir170,ir186,ev_draw1,exT,chkOk,nodeE,h3,h4]
   ·by_cases h5:1 < i
    ·have h6:2≤i:=by omega
     simp [ir169,ev_call,ir170,ir186,ev_draw1,exT,chkOk,nodeE,h3,h4,h5,h6]
    ·have h6:¬ (2≤i):=by omega
     simp [ir169,ev_call,ir170,ir186,ev_draw1,exT,chkOk,nodeE,h3,h4,h5,h6]
  ·have h3':0 < l.length:=by omega
   have h3n:l ≠ []:=fun e=>h3 (by rw [e]; rfl)
   simp [ir169,ev_call,ir170,ir186,ev_draw1,exT,chkOk,nodeE,h3,h3',hneg]
 ·by_cases h3:l.length=0
  ·by_cases h4:i < 0
   ·simp [ir169,ev_call,ir170,ir186,ev_draw1,exT,chkOk,nodeE,h3,h4,wn]
   ·by_cases h5:n - 1 < i
    ·have h6:n≤i:=by omega
     simp [ir169,ev_call,ir170,ir186,ev_draw1,exT,chkOk,nodeE,h3,h4,h5,h6,wn]
    ·have h6:¬ (n≤i):=by omega
     simp [ir169,ev_call,ir170,ir186,ev_draw1,exT,chkOk,nodeE,h3,h4,h5,h6,wn]
  ·have h3':0 < l.length:=by omega
   have h3n:l ≠ []:=fun e=>h3 (by rw [e]; rfl)
   simp [ir169,ev_call,ir170,ir186,ev_draw1,exT,chkOk,nodeE,h3,h3',hneg]
 ·by_cases h3:l.length=1
  ·by_cases h4:i < 0
   ·simp [ir169,ev_call,ir170,ir186,ev_draw1,exT,chkOk,nodeE,h3,h4]
   ·by_cases h5:0 < i
    ·have h6:1≤i:=by omega
     simp [ir169,ev_call,ir170,ir186,ev_draw1,exT,chkOk,nodeE,h3,h4,h5,h6]
    ·have h6:¬ (1≤i):=by omega
     simp [ir169,ev_call,ir170,ir186,ev_draw1,exT,chkOk,nodeE,h3,h4,h5,h6]
  ·have h3':((l.length:Int) < 1)∨¬ ((l.length:Int) < 1)∧(1:Int) < (l.length:Int):=by omega
   rcases h3' with h3' | ⟨h3',h3n⟩
   ·simp [ir169,ev_call,ir170,ir186,ev_draw1,exT,chkOk,nodeE,h3,h3']
   ·simp [ir169,ev_call,ir170,ir186,ev_draw1,exT,chkOk,nodeE,h3,h3',h3n]
 ·by_cases h3:l.length < 2
  ·simp [ir169,ev_call,ir170,ir186,ev_draw1,exT,chkOk,nodeE,h3,hl2]
  ·by_cases h4:i < 0
   ·simp [ir169,ev_call,ir170,ir186,ev_draw1,exT,chkOk,nodeE,h3,h4,hl2,hg256]
   ·by_cases h5:0 < i
    ·have h6:1≤i:=by omega
     simp [ir169,ev_call,ir170,ir186,ev_draw1,exT,chkOk,nodeE,h3,h4,h5,h6,hl2,hg256]
    ·have h6:¬ (1≤i):=by omega
     simp [ir169,ev_call,ir170,ir186,ev_draw1,exT,chkOk,nodeE,h3,h4,h5,h6,hl2,hg256]
 ·by_cases h3:l.length < 2
  ·simp [ir169,ev_call,ir170,ir186,ev_draw1,exT,chkOk,nodeE,h3,hl2]
  ·by_cases h4:i < 0
   ·simp [ir169,ev_call,ir170,ir186,ev_draw1,exT,chkOk,nodeE,h3,h4,hl2,hg256]
   ·by_cases h5:0 < i
    ·have h6:1≤i:=by omega
     simp [ir169,ev_call,ir170,ir186,ev_draw1,exT,chkOk,nodeE,h3,h4,h5,h6,hl2,hg256]
    ·have h6:¬ (1≤i):=by omega
     simp [ir169,ev_call,ir170,ir186,ev_draw1,exT,chkOk,nodeE,h3,h4,h5,h6,hl2,hg256]
theorem ev169 (x:Ex) (n:Int) (hx:x.nodes≤256) (hn:0≤n∧n≤256):ev pg (.call (.fn 169 [] []) [x.v,num n] [])=some { v:=num (nodeE x.op x.idx x.args.length n),st:=⟨[],[]⟩ }:=ev169' x.op x.idx n x.args (by have:=args_few hx; omega) hn
end Go.Proofs.YtbhkplbciajikaaGreat
