/- Values of expressions, by the program. -/
import Derived.Test.YtlhciedghbmjjaaGreatSa1
set_option linter.all false
namespace Go.Proofs.YtlhciedghbmjjaaGreat
open Go Go.Am Go.Proofs
set_option maxRecDepth 100000
mutual
def Ex.holds (vs:List Bool):Ex→Bool
 | .mk o i l=>if o=0 then i == 1 else if o=1 then (vs[i.toNat]?).getD false else if o=2 then (quv vs l).all (!·) else if o=3 then (quv vs l).all id else (quv vs l).any id
def quv (vs:List Bool):List Ex→List Bool
 | []=>[]
 | x :: l=>x.holds vs :: quv vs l
end
theorem qvx (vs:List Bool):∀ l:List Ex,quv vs l=l.map (Ex.holds vs)
 | []=>rfl
 | x :: l=>by rw [quv,qvx vs l]; rfl
theorem q4h (vs:List Bool) (x:Ex):x.holds vs=if x.op=0 then x.idx == 1 else if x.op=1 then (vs[x.idx.toNat]?).getD false else if x.op=2 then (x.args.map (Ex.holds vs)).all (!·) else if x.op=3 then (x.args.map (Ex.holds vs)).all id else (x.args.map (Ex.holds vs)).any id:=by
 cases x; rw [Ex.holds,qvx]; rfl
abbrev sh5:List V:=[num 0,num 0,.nilfn,num 0,num 0,.nilfn,num 1,num 1,.fn 195 [] [.bptr 3 0],num 2,num 256,.fn 195 [] [.bptr 4 0],num 2,num 256,.fn 189 [] []]
abbrev B5 (x:Ex) (vs:List Bool):H:=[⟨0,.box x.cells⟩,⟨0,.box [qeo vs]⟩,⟨0,.box sh5⟩,⟨0,.box [.bool false]⟩,⟨0,.box [.bool true]⟩]
theorem ev188 (b:Bool) (h:H):ev pg (.call (.fn 188 [] []) [.bool b] h)=some { v:=.fn 195 [] [.bptr h.length 0],st:=⟨[],h++[⟨0,.box [.bool b]⟩]⟩ }:=by
 rw [qac,pg188]
 simp [ir188]
theorem ev179 (x:Ex) (vs:List Bool):ev pg (.call (.fn 179 [] []) [] [⟨0,.box x.cells⟩,⟨0,.box [qeo vs]⟩])=some { v:=.agg sh5,st:=⟨[],B5 x vs⟩ }:=by
 have h1:=ev188 false
 have h2:=ev188 true
 rw [qac,pg179]
 simp [ir179,h1,h2]
theorem q2u {p:Ex→Bool} {l:List Ex} {k:Nat} (hk:k < l.length) (h:p l[k]=false):l.all p=false:=by
 rw [List.all_eq_false]; exact ⟨_,List.getElem_mem hk,by simp [h]⟩
theorem qww {p:Ex→Bool} {l:List Ex} (h:∀ j (hj:j < l.length),p l[j]=true):l.all p=true:=by
 rw [List.all_eq_true]
 intro x hx
 obtain ⟨j,hj,rfl⟩:=List.getElem_of_mem hx
 exact h j hj
abbrev sla:List V:=[.fn 180 [] [.bptr 0 0,.bptr 1 0],.bptr 3 0,.undef,.bptr 5 0,.undef,.fn 180 [] [.bptr 0 0,.bptr 1 0],.undef,.undef,.undef,.undef]
abbrev Ma (x:Ex) (vs:List Bool) (p:Option X):H:=B5 x vs++[⟨0,.box [.bool false]⟩,⟨0,.loop sla [6] L195_0 L195_1 p⟩]
theorem z7b (x y:Ex) (vs:List Bool) (u:Bool):ev pg (.call (.yld 6) [.bool u] (Ma x vs none++[⟨0,.arr 0 []⟩,⟨0,.box y.cells⟩]))=some { v:=.bool (u == false),st:=⟨[],Ma x vs (if u=false then none else some .ret)++[⟨0,.arr 0 []⟩,⟨0,.box y.cells⟩]⟩ }:=by
 rw [qjb]
 cases u <;> simp [qbz,L195_0,L195_1]
def q7r (x:Ex) (k:Nat):Tm:=[some (.yld 6),some (.bptr 0 0),some (.bptr 1 0),none,none,none,none,some (.imm (x.args.map Ex.row)),some (num x.args.length),some (num k)]++List.replicate 10 none
theorem zvg (x:Ex) (vs:List Bool) (hx:x.nodes≤256) (ih:∀ y ∈ x.args,ev pg (.call (.fn 157 [] []) [y.v,qeo vs] [])=some { v:=.bool (y.holds vs),st:=⟨[],[]⟩ }) {st:St} (h0:At (q7r x 0) (Ma x vs none) st):∃ r,ev pg (.code (.going 7 L180_0) st)=some r∧qls x.args.length (fun k=>((x.args[k]?).map (Ex.holds vs)).getD false != false) (fun k=>qaj .ret (List.replicate 20 none) (Ma x vs (some .ret)++[⟨0,.arr 0 []⟩,⟨0,.box (((x.args[k]?).map Ex.cells).getD [])⟩])) (qaj (.exit 0) (List.replicate 20 none) (Ma x vs none)) r:=by
 have hfew:=qga hx
 refine qcx _ _ (q7r x) (Ma x vs none) _ _ ?_ ?_ ?_ h0
 ·intro k f hf hk hp
  have hk':(k:Int) < x.args.length:=by omega
  have wk:=qab (n:=(k:Int) + 1) (by omega) (by omega)
  have hi:=ih _ (List.getElem_mem hk)
  have hh:x.args[k].holds vs=false:=by simpa [hk] using hp
  rw [hh] at hi
  have hy:=z7b x x.args[k] vs false
  simp at hy
  simp [q7r,L180_0,hk,hk',wk,hi,hy,hf.ne]
 ·intro k f hf hk hp
  have hk':(k:Int) < x.args.length:=by omega
  have hi:=ih _ (List.getElem_mem hk)
  have hh:x.args[k].holds vs=(!false):=by simpa [hk] using hp
  rw [hh] at hi
  have hy:=z7b x x.args[k] vs (!false)
  simp at hy hi
  simp [q7r,L180_0,hk,hk',hi,hy,hf.ne]
 ·intro f hf
  simp [q7r,L180_0,hf.ne]
theorem ev195a (x:Ex) (vs:List Bool) (hx:x.nodes≤256) (ih:∀ y ∈ x.args,ev pg (.call (.fn 157 [] []) [y.v,qeo vs] [])=some { v:=.bool (y.holds vs),st:=⟨[],[]⟩ }):ev pg (.call (.fn 195 [] [.bptr 3 0]) [.fn 180 [] [.bptr 0 0,.bptr 1 0]] (B5 x vs))=some { v:=.bool (x.args.all fun y=>y.holds vs == false),st:=⟨[],B5 x vs⟩ }:=by
 have hl:=@zvg x vs hx ih
 have h127:∃ p,ev pg (.call (.fn 180 [] [.bptr 0 0,.bptr 1 0]) [.yld 6] (Ma x vs none))=some { v:=.tup [],st:=⟨[],Ma x vs p⟩ }∧((p=none∧(x.args.all fun y=>y.holds vs == false)=true)∨(p=some .ret∧(x.args.all fun y=>y.holds vs == false)=false)):=by
  rw [qac,pg180]
  simp [-List.all_eq_true,-List.all_eq_false,ir180,qag]
  generalize hr:ev pg (.code (.going _ L180_0) _)=o
  obtain ⟨r,rfl,hQ⟩:∃ r,o=some r∧_:=by rw [← hr]; exact hl (by simp [q7r])
  rcases hQ with ⟨k,hk,hp,-,f,hf,rfl⟩ | ⟨hp,f,hf,rfl⟩
  ·refine ⟨some .ret,?_,.inr ⟨rfl,q2u hk (by simpa [hk] using hp)⟩⟩
   simp [hk]
  ·refine ⟨none,?_,.inl ⟨rfl,qww fun j hj=>by simpa [hj] using hp j hj⟩⟩
   simp
 obtain ⟨p,h127,hp⟩:=h127
 generalize (x.args.all fun y=>y.holds vs == false)=B at *
 rw [qac,pg195]
 simp at h127
 rcases hp with ⟨rfl,rfl⟩ | ⟨rfl,rfl⟩
 ·simp [ir195,qgs,h127]
 ·simp [ir195,qgs,h127]
abbrev slb:List V:=[.fn 180 [] [.bptr 0 0,.bptr 1 0],.bptr 4 0,.undef,.bptr 5 0,.undef,.fn 180 [] [.bptr 0 0,.bptr 1 0],.undef,.undef,.undef,.undef]
abbrev Mb (x:Ex) (vs:List Bool) (p:Option X):H:=B5 x vs++[⟨0,.box [.bool false]⟩,⟨0,.loop slb [6] L195_0 L195_1 p⟩]
theorem z7i (x y:Ex) (vs:List Bool) (u:Bool):ev pg (.call (.yld 6) [.bool u] (Mb x vs none++[⟨0,.arr 0 []⟩,⟨0,.box y.cells⟩]))=some { v:=.bool (u == true),st:=⟨[],Mb x vs (if u=true then none else some .ret)++[⟨0,.arr 0 []⟩,⟨0,.box y.cells⟩]⟩ }:=by
 rw [qjb]
 cases u <;> simp [qbz,L195_0,L195_1]
def q7l (x:Ex) (k:Nat):Tm:=[some (.yld 6),some (.bptr 0 0),some (.bptr 1 0),none,none,none,none,some (.imm (x.args.map Ex.row)),some (num x.args.length),some (num k)]++List.replicate 10 none
theorem zuv (x:Ex) (vs:List Bool) (hx:x.nodes≤256) (ih:∀ y ∈ x.args,ev pg (.call (.fn 157 [] []) [y.v,qeo vs] [])=some { v:=.bool (y.holds vs),st:=⟨[],[]⟩ }) {st:St} (h0:At (q7l x 0) (Mb x vs none) st):∃ r,ev pg (.code (.going 7 L180_0) st)=some r∧qls x.args.length (fun k=>((x.args[k]?).map (Ex.holds vs)).getD true != true) (fun k=>qaj .ret (List.replicate 20 none) (Mb x vs (some .ret)++[⟨0,.arr 0 []⟩,⟨0,.box (((x.args[k]?).map Ex.cells).getD [])⟩])) (qaj (.exit 0) (List.replicate 20 none) (Mb x vs none)) r:=by
 have hfew:=qga hx
 refine qcx _ _ (q7l x) (Mb x vs none) _ _ ?_ ?_ ?_ h0
 ·intro k f hf hk hp
  have hk':(k:Int) < x.args.length:=by omega
  have wk:=qab (n:=(k:Int) + 1) (by omega) (by omega)
  have hi:=ih _ (List.getElem_mem hk)
  have hh:x.args[k].holds vs=true:=by simpa [hk] using hp
  rw [hh] at hi
  have hy:=z7i x x.args[k] vs true
  simp at hy
  simp [q7l,L180_0,hk,hk',wk,hi,hy,hf.ne]
 ·intro k f hf hk hp
  have hk':(k:Int) < x.args.length:=by omega
  have hi:=ih _ (List.getElem_mem hk)
  have hh:x.args[k].holds vs=(!true):=by simpa [hk] using hp
  rw [hh] at hi
  have hy:=z7i x x.args[k] vs (!true)
  simp at hy hi
  simp [q7l,L180_0,hk,hk',hi,hy,hf.ne]
 ·intro f hf
  simp [q7l,L180_0,hf.ne]
theorem ev195b (x:Ex) (vs:List Bool) (hx:x.nodes≤256) (ih:∀ y ∈ x.args,ev pg (.call (.fn 157 [] []) [y.v,qeo vs] [])=some { v:=.bool (y.holds vs),st:=⟨[],[]⟩ }):ev pg (.call (.fn 195 [] [.bptr 4 0]) [.fn 180 [] [.bptr 0 0,.bptr 1 0]] (B5 x vs))=some { v:=.bool (x.args.all fun y=>y.holds vs == true),st:=⟨[],B5 x vs⟩ }:=by
 have hl:=@zuv x vs hx ih
 have h127:∃ p,ev pg (.call (.fn 180 [] [.bptr 0 0,.bptr 1 0]) [.yld 6] (Mb x vs none))=some { v:=.tup [],st:=⟨[],Mb x vs p⟩ }∧((p=none∧(x.args.all fun y=>y.holds vs == true)=true)∨(p=some .ret∧(x.args.all fun y=>y.holds vs == true)=false)):=by
  rw [qac,pg180]
  simp [-List.all_eq_true,-List.all_eq_false,ir180,qag]
  generalize hr:ev pg (.code (.going _ L180_0) _)=o
  obtain ⟨r,rfl,hQ⟩:∃ r,o=some r∧_:=by rw [← hr]; exact hl (by simp [q7l])
  rcases hQ with ⟨k,hk,hp,-,f,hf,rfl⟩ | ⟨hp,f,hf,rfl⟩
  ·refine ⟨some .ret,?_,.inr ⟨rfl,q2u hk (by simpa [hk] using hp)⟩⟩
   simp [hk]
  ·refine ⟨none,?_,.inl ⟨rfl,qww fun j hj=>by simpa [hj] using hp j hj⟩⟩
   simp
 obtain ⟨p,h127,hp⟩:=h127
 generalize (x.args.all fun y=>y.holds vs == true)=B at *
 rw [qac,pg195]
 simp at h127
 rcases hp with ⟨rfl,rfl⟩ | ⟨rfl,rfl⟩
 ·simp [ir195,qgs,h127]
 ·simp [ir195,qgs,h127]
abbrev slc:List V:=[.fn 180 [] [.bptr 0 0,.bptr 1 0],.bptr 5 0,.undef,.bptr 6 0,.undef,.fn 180 [] [.bptr 0 0,.bptr 1 0],.undef,.undef,.undef,.undef]
abbrev Mc (x:Ex) (vs:List Bool) (p:Option X):H:=B5 x vs++[⟨0,.box [.bool false]⟩]++[⟨0,.box [.bool false]⟩,⟨0,.loop slc [6] L195_0 L195_1 p⟩]
theorem z6v (x y:Ex) (vs:List Bool) (u:Bool):ev pg (.call (.yld 7) [.bool u] (Mc x vs none++[⟨0,.arr 0 []⟩,⟨0,.box y.cells⟩]))=some { v:=.bool (u == false),st:=⟨[],Mc x vs (if u=false then none else some .ret)++[⟨0,.arr 0 []⟩,⟨0,.box y.cells⟩]⟩ }:=by
 rw [qjb]
 cases u <;> simp [qbz,L195_0,L195_1]
def q7q (x:Ex) (k:Nat):Tm:=[some (.yld 7),some (.bptr 0 0),some (.bptr 1 0),none,none,none,none,some (.imm (x.args.map Ex.row)),some (num x.args.length),some (num k)]++List.replicate 10 none
theorem zvl (x:Ex) (vs:List Bool) (hx:x.nodes≤256) (ih:∀ y ∈ x.args,ev pg (.call (.fn 157 [] []) [y.v,qeo vs] [])=some { v:=.bool (y.holds vs),st:=⟨[],[]⟩ }) {st:St} (h0:At (q7q x 0) (Mc x vs none) st):∃ r,ev pg (.code (.going 8 L180_0) st)=some r∧qls x.args.length (fun k=>((x.args[k]?).map (Ex.holds vs)).getD false != false) (fun k=>qaj .ret (List.replicate 20 none) (Mc x vs (some .ret)++[⟨0,.arr 0 []⟩,⟨0,.box (((x.args[k]?).map Ex.cells).getD [])⟩])) (qaj (.exit 0) (List.replicate 20 none) (Mc x vs none)) r:=by
 have hfew:=qga hx
 refine qcx _ _ (q7q x) (Mc x vs none) _ _ ?_ ?_ ?_ h0
 ·intro k f hf hk hp
  have hk':(k:Int) < x.args.length:=by omega
  have wk:=qab (n:=(k:Int) + 1) (by omega) (by omega)
  have hi:=ih _ (List.getElem_mem hk)
  have hh:x.args[k].holds vs=false:=by simpa [hk] using hp
  rw [hh] at hi
  have hy:=z6v x x.args[k] vs false
  simp at hy
  simp [q7q,L180_0,hk,hk',wk,hi,hy,hf.ne]
 ·intro k f hf hk hp
  have hk':(k:Int) < x.args.length:=by omega
  have hi:=ih _ (List.getElem_mem hk)
  have hh:x.args[k].holds vs=(!false):=by simpa [hk] using hp
  rw [hh] at hi
  have hy:=z6v x x.args[k] vs (!false)
  simp at hy hi
  simp [q7q,L180_0,hk,hk',hi,hy,hf.ne]
 ·intro f hf
  simp [q7q,L180_0,hf.ne]
theorem ev195c (x:Ex) (vs:List Bool) (hx:x.nodes≤256) (ih:∀ y ∈ x.args,ev pg (.call (.fn 157 [] []) [y.v,qeo vs] [])=some { v:=.bool (y.holds vs),st:=⟨[],[]⟩ }):ev pg (.call (.fn 195 [] [.bptr 5 0]) [.fn 180 [] [.bptr 0 0,.bptr 1 0]] (B5 x vs++[⟨0,.box [.bool false]⟩]))=some { v:=.bool (x.args.all fun y=>y.holds vs == false),st:=⟨[],B5 x vs++[⟨0,.box [.bool false]⟩]⟩ }:=by
 have hl:=@zvl x vs hx ih
 have h127:∃ p,ev pg (.call (.fn 180 [] [.bptr 0 0,.bptr 1 0]) [.yld 7] (Mc x vs none))=some { v:=.tup [],st:=⟨[],Mc x vs p⟩ }∧((p=none∧(x.args.all fun y=>y.holds vs == false)=true)∨(p=some .ret∧(x.args.all fun y=>y.holds vs == false)=false)):=by
  rw [qac,pg180]
  simp [-List.all_eq_true,-List.all_eq_false,ir180,qag]
  generalize hr:ev pg (.code (.going _ L180_0) _)=o
  obtain ⟨r,rfl,hQ⟩:∃ r,o=some r∧_:=by rw [← hr]; exact hl (by simp [q7q])
  rcases hQ with ⟨k,hk,hp,-,f,hf,rfl⟩ | ⟨hp,f,hf,rfl⟩
  ·refine ⟨some .ret,?_,.inr ⟨rfl,q2u hk (by simpa [hk] using hp)⟩⟩
   simp [hk]
  ·refine ⟨none,?_,.inl ⟨rfl,qww fun j hj=>by simpa [hj] using hp j hj⟩⟩
   simp
 obtain ⟨p,h127,hp⟩:=h127
 generalize (x.args.all fun y=>y.holds vs == false)=B at *
 rw [qac,pg195]
 simp at h127
 rcases hp with ⟨rfl,rfl⟩ | ⟨rfl,rfl⟩
 ·simp [ir195,qgs,h127]
 ·simp [ir195,qgs,h127]
theorem ev189 (x:Ex) (vs:List Bool) (hx:x.nodes≤256) (ih:∀ y ∈ x.args,ev pg (.call (.fn 157 [] []) [y.v,qeo vs] [])=some { v:=.bool (y.holds vs),st:=⟨[],[]⟩ }):ev pg (.call (.fn 189 [] []) [.fn 180 [] [.bptr 0 0,.bptr 1 0]] (B5 x vs))=some { v:=.bool (!(x.args.all fun y=>y.holds vs == false)),st:=⟨[],B5 x vs⟩ }:=by
 have h1:=ev188 false (B5 x vs)
 have h2:=ev195c x vs hx ih
 generalize (x.args.all fun y=>y.holds vs == false)=B at *
 rw [qac,pg189]
 simp at h1 h2
 simp [ir189,h1,h2]
theorem ev157 (vs:List Bool):∀ x:Ex,x.nodes≤256→x.err vs.length=0→ev pg (.call (.fn 157 [] []) [x.v,qeo vs] [])=some { v:=.bool (x.holds vs),st:=⟨[],[]⟩ }:=by
 refine Ex.ind fun x ih hx he=>?_
 obtain ⟨hn,hargs⟩:=qrr he
 have ih':∀ y ∈ x.args,ev pg (.call (.fn 157 [] []) [y.v,qeo vs] [])=some { v:=.bool (y.holds vs),st:=⟨[],[]⟩ }:=fun y hy=>ih y hy (by have:=qft hx hy; omega) (hargs y hy)
 have hop:x.op=0∨x.op=1∨x.op=2∨x.op=3∨x.op=4:=by
  unfold qbi at hn
  by_cases h:x.op < 0∨5≤x.op
  ·rw [if_pos h] at hn; omega
  ·omega
 have h126:=ev179 x vs
 have a:=ev195a x vs hx ih'
 have b:=ev195b x vs hx ih'
 have d:=ev189 x vs hx ih'
 have ea:(x.args.map (Ex.holds vs)).all (!·)=x.args.all fun y=>y.holds vs == false:=by
  rw [List.all_map]; congr 1; funext y; cases h:y.holds vs <;> simp [h]
 have eb:(x.args.map (Ex.holds vs)).all id=x.args.all fun y=>y.holds vs == true:=by
  rw [List.all_map]; congr 1; funext y; cases h:y.holds vs <;> simp [h]
 have ed:(x.args.map (Ex.holds vs)).any id=!(x.args.all fun y=>y.holds vs == false):=by
  rw [List.any_map,List.not_all_eq_any_not]; congr 1; funext y; cases h:y.holds vs <;> simp [h]
 rw [q4h,ea,eb,ed]
 generalize (x.args.all fun y=>y.holds vs == false)=B1 at *
 generalize (x.args.all fun y=>y.holds vs == true)=B2 at *
 rw [qac,pg157]
 rcases hop with h | h | h | h | h
 ·simp [ir157,h]
 ·obtain ⟨hi0,hi1⟩:=qxz hn h
  have hin:x.idx.toNat < vs.length:=by omega
  simp [ir157,h,hi0,hin]
 ·simp [B5,Ex.cells,h] at h126 a
  simp [qaa,exT,qad,ir157,h,h126,a]
 ·simp [B5,Ex.cells,h] at h126 b
  simp [qaa,exT,qad,ir157,h,h126,b]
 ·simp [B5,Ex.cells,h] at h126 d
  simp [qaa,exT,qad,ir157,h,h126,d]
theorem ev124 (x:Ex) (vs:List Bool) (hx:x.light=true) (hv:vs.length≤256) (he:x.check vs.length=0):ev pg (.call (.fn 124 [] []) [x.v,qeo vs] [])=some { v:=.tup [.bool (x.holds vs),num 0],st:=⟨[],[]⟩ }:=by
 have h111:=ev150 x vs.length hx
 have he':x.err vs.length=0:=by
  unfold Ex.check at he
  rw [if_neg (by omega),if_pos hx] at he
  exact he
 have h112:=ev157 vs x (qdz hx).1 he'
 rw [he] at h111
 rw [qac,pg124]
 simp [ir124,h111,h112]
end Go.Proofs.YtlhciedghbmjjaaGreat
