/- Expressions: how many nodes they have, and how deep they are, by the reference. Expressions, by the reference: depth, light ones, errors. Expressions, by the program: a node alone. -/
import Derived.Test.YtlhciedghbmjjaaGreatPg5
set_option linter.all false
namespace Go.Proofs.YtlhciedghbmjjaaGreat
open Go Go.Am Go.Proofs
set_option maxRecDepth 100000
abbrev num (n:Int):V:=.int .i64 n
inductive Ex where
 | mk (op idx:Int) (args:List Ex)
def Ex.op:Ex→Int
 | .mk o _ _=>o
def Ex.idx:Ex→Int
 | .mk _ i _=>i
def Ex.args:Ex→List Ex
 | .mk _ _ l=>l
mutual
def Ex.row:Ex→List V
 | .mk o i l=>[num o,num i,.imm (rowsX l)]
def rowsX:List Ex→List (List V)
 | []=>[]
 | x :: l=>x.row :: rowsX l
end
theorem rowsX_map:∀ l:List Ex,rowsX l=l.map Ex.row
 | []=>rfl
 | x :: l=>by rw [rowsX,rowsX_map l]; rfl
abbrev Ex.cells (x:Ex):List V:=[num x.op,num x.idx,.imm (x.args.map Ex.row)]
abbrev Ex.v (x:Ex):V:=.agg x.cells
@[simp] theorem row_eq (x:Ex):x.row=x.cells:=by
 cases x with
 | mk o i l=>rw [Ex.row,rowsX_map]; rfl
theorem ex_lt {x y:Ex} (h:y ∈ x.args):SizeOf.sizeOf y < SizeOf.sizeOf x:=by
 cases x with
 | mk o i l =>
  have:=List.sizeOf_lt_of_mem (show y ∈ l from h)
  simp only [Ex.mk.sizeOf_spec]
  omega
theorem Ex.ind {P:Ex→Prop} (h:∀ x,(∀ y ∈ x.args,P y)→P x):∀ x,P x:=by
 have:∀ n (x:Ex),SizeOf.sizeOf x < n→P x:=by
  intro n
  induction n with
  | zero=>intro x hx; omega
  | succ n ih=>exact fun x hx=>h x fun y hy=>ih y (by have:=ex_lt hy; omega)
 exact fun x=>this _ x (Nat.lt_succ_self _)
mutual
def Ex.nodes:Ex→Nat
 | .mk _ _ l=>1 + nodesL l
def nodesL:List Ex→Nat
 | []=>0
 | x :: l=>x.nodes + nodesL l
end
mutual
def Ex.depth:Ex→Nat
 | .mk _ _ l=>1 + depthL l
def depthL:List Ex→Nat
 | []=>0
 | x :: l=>max x.depth (depthL l)
end
theorem nodes_eq (x:Ex):x.nodes=1 + nodesL x.args:=by cases x; rw [Ex.nodes]; rfl
theorem depth_eq (x:Ex):x.depth=1 + depthL x.args:=by cases x; rw [Ex.depth]; rfl
theorem nodes_pos (x:Ex):1≤x.nodes:=by rw [nodes_eq]; omega
theorem depth_pos (x:Ex):1≤x.depth:=by rw [depth_eq]; omega
theorem nodesL_len:∀ l:List Ex,l.length≤nodesL l
 | []=>Nat.le_refl _
 | x :: l=>by
  have h1:=nodesL_len l
  have h2:=nodes_pos x
  rw [nodesL,List.length_cons]
  omega
theorem nodes_mem:∀ {l:List Ex} {y:Ex},y ∈ l→y.nodes≤nodesL l
 | x :: l,y,h=>by
  rw [nodesL]
  rcases List.mem_cons.1 h with rfl | h
  ·omega
  ·have:=nodes_mem h
   omega
theorem depthL_le {d:Nat}:∀ {l:List Ex},depthL l≤d ↔ ∀ y ∈ l,y.depth≤d
 | []=>by simp [depthL]
 | x :: l=>by
  rw [depthL,List.forall_mem_cons,← depthL_le (l:=l)]
  omega
theorem args_few {x:Ex} (h:x.nodes≤256):x.args.length≤255:=by
 have h1:=nodesL_len x.args
 have h2:=nodes_eq x
 omega
theorem args_nodes {x y:Ex} (h:x.nodes≤256) (hy:y ∈ x.args):y.nodes≤256:=by
 have h1:=nodes_mem hy
 have h2:=nodes_eq x
 omega
def Ex.light (x:Ex):Bool:=decide (x.nodes≤256) && decide (x.depth≤16)
def nodeE (o i:Int) (k:Nat) (n:Int):Int :=
 if o < 0∨5≤o then 1 else if (o≤1∧k ≠ 0)∨(o=2∧k ≠ 1)∨(3≤o∧k < 2) then 3 else if i < 0∨(if o=0 then 2 else if o=1 then n else 1)≤i then 2 else 0
mutual
def Ex.err (n:Int):Ex→Int
 | .mk o i l=>if nodeE o i l.length n=0 then errL n l else nodeE o i l.length n
def errL (n:Int):List Ex→Int
 | []=>0
 | x :: l=>if x.err n=0 then errL n l else x.err n
end
theorem err_eq (n:Int) (x:Ex):x.err n=if nodeE x.op x.idx x.args.length n=0 then errL n x.args else nodeE x.op x.idx x.args.length n:=by cases x; rw [Ex.err]; rfl
def Ex.check (x:Ex) (n:Int):Int:=if n < 0∨256 < n then 2 else if x.light=true then x.err n else 5
theorem light_nodes {x:Ex} (h:x.light=true):x.nodes≤256∧x.depth≤16:=by simpa [Ex.light] using h
theorem ev176' (o i n:Int) (l:List Ex) (hl:l.length≤256) (hn:0≤n∧n≤256):ev pg (.call (.fn 176 [] []) [.agg [num o,num i,.imm (l.map Ex.row)],num n] [])=some { v:=num (nodeE o i l.length n),st:=⟨[],[]⟩ }:=by
 have wn:=wrap_id (n:=n - 1) (by omega) (by omega)
 rw [ev_call,pg176]
 by_cases h1:o < 0
 ·simp [ir176,nodeE,h1]
 by_cases h2:5≤o
 ·simp [ir176,nodeE,h1,h2]
 have hl2:((l.length:Int) < 2) ↔ l.length < 2:=by omega
 have hneg:¬ ((l.length:Int) < 0):=by omega
 have hg256:¬ ((256:Int) < (l.length:Int)):=by omega
 rcases (by omega:o=0∨o=1∨o=2∨o=3∨o=4) with rfl | rfl | rfl | rfl | rfl
 ·by_cases h3:l.length=0
  ·by_cases h4:i < 0
   ·simp [ir176,ev_call,ir179,ir188,ev_draw1,exT,chkOk,nodeE,h3,h4]
   ·by_cases h5:1 < i
    ·have h6:2≤i:=by omega
     simp [ir176,ev_call,ir179,ir188,ev_draw1,exT,chkOk,nodeE,h3,h4,h5,h6]
    ·have h6:¬ (2≤i):=by omega
     simp [ir176,ev_call,ir179,ir188,ev_draw1,exT,chkOk,nodeE,h3,h4,h5,h6]
  ·have h3':0 < l.length:=by omega
   have h3n:l ≠ []:=fun e=>h3 (by rw [e]; rfl)
   simp [ir176,ev_call,ir179,ir188,ev_draw1,exT,chkOk,nodeE,h3,h3',hneg]
 ·by_cases h3:l.length=0
  ·by_cases h4:i < 0
   ·simp [ir176,ev_call,ir179,ir188,ev_draw1,exT,chkOk,nodeE,h3,h4,wn]
   ·by_cases h5:n - 1 < i
    ·have h6:n≤i:=by omega
     simp [ir176,ev_call,ir179,ir188,ev_draw1,exT,chkOk,nodeE,h3,h4,h5,h6,wn]
    ·have h6:¬ (n≤i):=by omega
     simp [ir176,ev_call,ir179,ir188,ev_draw1,exT,chkOk,nodeE,h3,h4,h5,h6,wn]
  ·have h3':0 < l.length:=by omega
   have h3n:l ≠ []:=fun e=>h3 (by rw [e]; rfl)
   simp [ir176,ev_call,ir179,ir188,ev_draw1,exT,chkOk,nodeE,h3,h3',hneg]
 ·by_cases h3:l.length=1
  ·by_cases h4:i < 0
   ·simp [ir176,ev_call,ir179,ir188,ev_draw1,exT,chkOk,nodeE,h3,h4]
   ·by_cases h5:0 < i
    ·have h6:1≤i:=by omega
     simp [ir176,ev_call,ir179,ir188,ev_draw1,exT,chkOk,nodeE,h3,h4,h5,h6]
    ·have h6:¬ (1≤i):=by omega
     simp [ir176,ev_call,ir179,ir188,ev_draw1,exT,chkOk,nodeE,h3,h4,h5,h6]
  ·have h3':((l.length:Int) < 1)∨¬ ((l.length:Int) < 1)∧(1:Int) < (l.length:Int):=by omega
   rcases h3' with h3' | ⟨h3',h3n⟩
   ·simp [ir176,ev_call,ir179,ir188,ev_draw1,exT,chkOk,nodeE,h3,h3']
   ·simp [ir176,ev_call,ir179,ir188,ev_draw1,exT,chkOk,nodeE,h3,h3',h3n]
 ·by_cases h3:l.length < 2
  ·simp [ir176,ev_call,ir179,ir188,ev_draw1,exT,chkOk,nodeE,h3,hl2]
  ·by_cases h4:i < 0
   ·simp [ir176,ev_call,ir179,ir188,ev_draw1,exT,chkOk,nodeE,h3,h4,hl2,hg256]
   ·by_cases h5:0 < i
    ·have h6:1≤i:=by omega
     simp [ir176,ev_call,ir179,ir188,ev_draw1,exT,chkOk,nodeE,h3,h4,h5,h6,hl2,hg256]
    ·have h6:¬ (1≤i):=by omega
     simp [ir176,ev_call,ir179,ir188,ev_draw1,exT,chkOk,nodeE,h3,h4,h5,h6,hl2,hg256]
 ·by_cases h3:l.length < 2
  ·simp [ir176,ev_call,ir179,ir188,ev_draw1,exT,chkOk,nodeE,h3,hl2]
  ·by_cases h4:i < 0
   ·simp [ir176,ev_call,ir179,ir188,ev_draw1,exT,chkOk,nodeE,h3,h4,hl2,hg256]
   ·by_cases h5:0 < i
    ·have h6:1≤i:=by omega
     simp [ir176,ev_call,ir179,ir188,ev_draw1,exT,chkOk,nodeE,h3,h4,h5,h6,hl2,hg256]
    ·have h6:¬ (1≤i):=by omega
     simp [ir176,ev_call,ir179,ir188,ev_draw1,exT,chkOk,nodeE,h3,h4,h5,h6,hl2,hg256]
theorem ev176 (x:Ex) (n:Int) (hx:x.nodes≤256) (hn:0≤n∧n≤256):ev pg (.call (.fn 176 [] []) [x.v,num n] [])=some { v:=num (nodeE x.op x.idx x.args.length n),st:=⟨[],[]⟩ }:=ev176' x.op x.idx n x.args (by have:=args_few hx; omega) hn
end Go.Proofs.YtlhciedghbmjjaaGreat
