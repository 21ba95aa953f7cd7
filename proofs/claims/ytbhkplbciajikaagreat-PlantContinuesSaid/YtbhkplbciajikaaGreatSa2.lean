/- Values of expressions, by the program. States: few, equal, right, by the reference. -/
import Derived.Test.YtbhkplbciajikaaGreatSa1
set_option linter.all false
namespace Go.Proofs.YtbhkplbciajikaaGreat
open Go Go.Am Go.Proofs
set_option maxRecDepth 100000
mutual
def Ex.holds (vs:List Bool):Ex→Bool
 | .mk o i l=>if o=0 then i == 1 else if o=1 then (vs[i.toNat]?).getD false else if o=2 then (holdsL vs l).all (!·) else if o=3 then (holdsL vs l).all id else (holdsL vs l).any id
def holdsL (vs:List Bool):List Ex→List Bool
 | []=>[]
 | x :: l=>x.holds vs :: holdsL vs l
end
theorem holdsL_map (vs:List Bool):∀ l:List Ex,holdsL vs l=l.map (Ex.holds vs)
 | []=>rfl
 | x :: l=>by rw [holdsL,holdsL_map vs l]; rfl
theorem holds_eq (vs:List Bool) (x:Ex):x.holds vs=if x.op=0 then x.idx == 1 else if x.op=1 then (vs[x.idx.toNat]?).getD false else if x.op=2 then (x.args.map (Ex.holds vs)).all (!·) else if x.op=3 then (x.args.map (Ex.holds vs)).all id else (x.args.map (Ex.holds vs)).any id:=by
 cases x; rw [Ex.holds,holdsL_map]; rfl
abbrev sh5:List V:=[num 0,num 0,.nilfn,num 0,num 0,.nilfn,num 1,num 1,.fn 191 [] [.bptr 3 0],num 2,num 256,.fn 191 [] [.bptr 4 0],num 2,num 256,.fn 187 [] []]
abbrev B5 (x:Ex) (vs:List Bool):H:=[⟨0,.box x.cells⟩,⟨0,.box [bools vs]⟩,⟨0,.box sh5⟩,⟨0,.box [.bool false]⟩,⟨0,.box [.bool true]⟩]
theorem ev186 (b:Bool) (h:H):ev pg (.call (.fn 186 [] []) [.bool b] h)=some { v:=.fn 191 [] [.bptr h.length 0],st:=⟨[],h++[⟨0,.box [.bool b]⟩]⟩ }:=by
 rw [ev_call,pg186]
 simp [ir186]
theorem ev170 (x:Ex) (vs:List Bool):ev pg (.call (.fn 170 [] []) [] [⟨0,.box x.cells⟩,⟨0,.box [bools vs]⟩])=some { v:=.agg sh5,st:=⟨[],B5 x vs⟩ }:=by
 have h1:=ev186 false
 have h2:=ev186 true
 rw [ev_call,pg170]
 simp [ir170,h1,h2]
theorem all_hit {p:Ex→Bool} {l:List Ex} {k:Nat} (hk:k < l.length) (h:p l[k]=false):l.all p=false:=by
 rw [List.all_eq_false]; exact ⟨_,List.getElem_mem hk,by simp [h]⟩
theorem all_none {p:Ex→Bool} {l:List Ex} (h:∀ j (hj:j < l.length),p l[j]=true):l.all p=true:=by
 rw [List.all_eq_true]
 intro x hx
 obtain ⟨j,hj,rfl⟩:=List.getElem_of_mem hx
 exact h j hj
abbrev sla:List V:=[.fn 171 [] [.bptr 0 0,.bptr 1 0],.bptr 3 0,.undef,.bptr 5 0,.undef,.fn 171 [] [.bptr 0 0,.bptr 1 0],.undef,.undef,.undef,.undef]
abbrev Ma (x:Ex) (vs:List Bool) (p:Option X):H:=B5 x vs++[⟨0,.box [.bool false]⟩,⟨0,.loop sla [6] L191_0 L191_1 p⟩]
theorem ylda (x y:Ex) (vs:List Bool) (u:Bool):ev pg (.call (.yld 6) [.bool u] (Ma x vs none++[⟨0,.arr 0 []⟩,⟨0,.box y.cells⟩]))=some { v:=.bool (u == false),st:=⟨[],Ma x vs (if u=false then none else some .ret)++[⟨0,.arr 0 []⟩,⟨0,.box y.cells⟩]⟩ }:=by
 rw [ev_eq]
 cases u <;> simp [stepQ,L191_0,L191_1]
def T127a (x:Ex) (k:Nat):Tm:=[some (.yld 6),some (.bptr 0 0),some (.bptr 1 0),none,none,none,none,some (.imm (x.args.map Ex.row)),some (num x.args.length),some (num k)]++List.replicate 10 none
theorem lp127a (x:Ex) (vs:List Bool) (hx:x.nodes≤256) (ih:∀ y ∈ x.args,ev pg (.call (.fn 153 [] []) [y.v,bools vs] [])=some { v:=.bool (y.holds vs),st:=⟨[],[]⟩ }) {st:St} (h0:At (T127a x 0) (Ma x vs none) st):∃ r,ev pg (.code (.going 7 L171_0) st)=some r∧Finds x.args.length (fun k=>((x.args[k]?).map (Ex.holds vs)).getD false != false) (fun k=>EndsAs .ret (List.replicate 20 none) (Ma x vs (some .ret)++[⟨0,.arr 0 []⟩,⟨0,.box (((x.args[k]?).map Ex.cells).getD [])⟩])) (EndsAs (.exit 0) (List.replicate 20 none) (Ma x vs none)) r:=by
 have hfew:=args_few hx
 refine loop_first _ _ (T127a x) (Ma x vs none) _ _ ?_ ?_ ?_ h0
 ·intro k f hf hk hp
  have hk':(k:Int) < x.args.length:=by omega
  have wk:=wrap_id (n:=(k:Int) + 1) (by omega) (by omega)
  have hi:=ih _ (List.getElem_mem hk)
  have hh:x.args[k].holds vs=false:=by simpa [hk] using hp
  rw [hh] at hi
  have hy:=ylda x x.args[k] vs false
  simp at hy
  simp [T127a,L171_0,hk,hk',wk,hi,hy,hf.ne]
 ·intro k f hf hk hp
  have hk':(k:Int) < x.args.length:=by omega
  have hi:=ih _ (List.getElem_mem hk)
  have hh:x.args[k].holds vs=(!false):=by simpa [hk] using hp
  rw [hh] at hi
  have hy:=ylda x x.args[k] vs (!false)
  simp at hy hi
  simp [T127a,L171_0,hk,hk',hi,hy,hf.ne]
 ·intro f hf
  simp [T127a,L171_0,hf.ne]
theorem ev191a (x:Ex) (vs:List Bool) (hx:x.nodes≤256) (ih:∀ y ∈ x.args,ev pg (.call (.fn 153 [] []) [y.v,bools vs] [])=some { v:=.bool (y.holds vs),st:=⟨[],[]⟩ }):ev pg (.call (.fn 191 [] [.bptr 3 0]) [.fn 171 [] [.bptr 0 0,.bptr 1 0]] (B5 x vs))=some { v:=.bool (x.args.all fun y=>y.holds vs == false),st:=⟨[],B5 x vs⟩ }:=by
 have hl:=@lp127a x vs hx ih
 have h127:∃ p,ev pg (.call (.fn 171 [] [.bptr 0 0,.bptr 1 0]) [.yld 6] (Ma x vs none))=some { v:=.tup [],st:=⟨[],Ma x vs p⟩ }∧((p=none∧(x.args.all fun y=>y.holds vs == false)=true)∨(p=some .ret∧(x.args.all fun y=>y.holds vs == false)=false)):=by
  rw [ev_call,pg171]
  simp [-List.all_eq_true,-List.all_eq_false,ir171,ev_loop]
  generalize hr:ev pg (.code (.going _ L171_0) _)=o
  obtain ⟨r,rfl,hQ⟩:∃ r,o=some r∧_:=by rw [← hr]; exact hl (by simp [T127a])
  rcases hQ with ⟨k,hk,hp,-,f,hf,rfl⟩ | ⟨hp,f,hf,rfl⟩
  ·refine ⟨some .ret,?_,.inr ⟨rfl,all_hit hk (by simpa [hk] using hp)⟩⟩
   simp [hk]
  ·refine ⟨none,?_,.inl ⟨rfl,all_none fun j hj=>by simpa [hj] using hp j hj⟩⟩
   simp
 obtain ⟨p,h127,hp⟩:=h127
 generalize (x.args.all fun y=>y.holds vs == false)=B at *
 rw [ev_call,pg191]
 simp at h127
 rcases hp with ⟨rfl,rfl⟩ | ⟨rfl,rfl⟩
 ·simp [ir191,ev_range,h127]
 ·simp [ir191,ev_range,h127]
abbrev slb:List V:=[.fn 171 [] [.bptr 0 0,.bptr 1 0],.bptr 4 0,.undef,.bptr 5 0,.undef,.fn 171 [] [.bptr 0 0,.bptr 1 0],.undef,.undef,.undef,.undef]
abbrev Mb (x:Ex) (vs:List Bool) (p:Option X):H:=B5 x vs++[⟨0,.box [.bool false]⟩,⟨0,.loop slb [6] L191_0 L191_1 p⟩]
theorem yldb (x y:Ex) (vs:List Bool) (u:Bool):ev pg (.call (.yld 6) [.bool u] (Mb x vs none++[⟨0,.arr 0 []⟩,⟨0,.box y.cells⟩]))=some { v:=.bool (u == true),st:=⟨[],Mb x vs (if u=true then none else some .ret)++[⟨0,.arr 0 []⟩,⟨0,.box y.cells⟩]⟩ }:=by
 rw [ev_eq]
 cases u <;> simp [stepQ,L191_0,L191_1]
def T127b (x:Ex) (k:Nat):Tm:=[some (.yld 6),some (.bptr 0 0),some (.bptr 1 0),none,none,none,none,some (.imm (x.args.map Ex.row)),some (num x.args.length),some (num k)]++List.replicate 10 none
theorem lp127b (x:Ex) (vs:List Bool) (hx:x.nodes≤256) (ih:∀ y ∈ x.args,ev pg (.call (.fn 153 [] []) [y.v,bools vs] [])=some { v:=.bool (y.holds vs),st:=⟨[],[]⟩ }) {st:St} (h0:At (T127b x 0) (Mb x vs none) st):∃ r,ev pg (.code (.going 7 L171_0) st)=some r∧Finds x.args.length (fun k=>((x.args[k]?).map (Ex.holds vs)).getD true != true) (fun k=>EndsAs .ret (List.replicate 20 none) (Mb x vs (some .ret)++[⟨0,.arr 0 []⟩,⟨0,.box (((x.args[k]?).map Ex.cells).getD [])⟩])) (EndsAs (.exit 0) (List.replicate 20 none) (Mb x vs none)) r:=by
 have hfew:=args_few hx
 refine loop_first _ _ (T127b x) (Mb x vs none) _ _ ?_ ?_ ?_ h0
 ·intro k f hf hk hp
  have hk':(k:Int) < x.args.length:=by omega
  have wk:=wrap_id (n:=(k:Int) + 1) (by omega) (by omega)
  have hi:=ih _ (List.getElem_mem hk)
  have hh:x.args[k].holds vs=true:=by simpa [hk] using hp
  rw [hh] at hi
  have hy:=yldb x x.args[k] vs true
  simp at hy
  simp [T127b,L171_0,hk,hk',wk,hi,hy,hf.ne]
 ·intro k f hf hk hp
  have hk':(k:Int) < x.args.length:=by omega
  have hi:=ih _ (List.getElem_mem hk)
  have hh:x.args[k].holds vs=(!true):=by simpa [hk] using hp
  rw [hh] at hi
  have hy:=yldb x x.args[k] vs (!true)
  simp at hy hi
  simp [T127b,L171_0,hk,hk',hi,hy,hf.ne]
 ·intro f hf
  simp [T127b,L171_0,hf.ne]
theorem ev191b (x:Ex) (vs:List Bool) (hx:x.nodes≤256) (ih:∀ y ∈ x.args,ev pg (.call (.fn 153 [] []) [y.v,bools vs] [])=some { v:=.bool (y.holds vs),st:=⟨[],[]⟩ }):ev pg (.call (.fn 191 [] [.bptr 4 0]) [.fn 171 [] [.bptr 0 0,.bptr 1 0]] (B5 x vs))=some { v:=.bool (x.args.all fun y=>y.holds vs == true),st:=⟨[],B5 x vs⟩ }:=by
 have hl:=@lp127b x vs hx ih
 have h127:∃ p,ev pg (.call (.fn 171 [] [.bptr 0 0,.bptr 1 0]) [.yld 6] (Mb x vs none))=some { v:=.tup [],st:=⟨[],Mb x vs p⟩ }∧((p=none∧(x.args.all fun y=>y.holds vs == true)=true)∨(p=some .ret∧(x.args.all fun y=>y.holds vs == true)=false)):=by
  rw [ev_call,pg171]
  simp [-List.all_eq_true,-List.all_eq_false,ir171,ev_loop]
  generalize hr:ev pg (.code (.going _ L171_0) _)=o
  obtain ⟨r,rfl,hQ⟩:∃ r,o=some r∧_:=by rw [← hr]; exact hl (by simp [T127b])
  rcases hQ with ⟨k,hk,hp,-,f,hf,rfl⟩ | ⟨hp,f,hf,rfl⟩
  ·refine ⟨some .ret,?_,.inr ⟨rfl,all_hit hk (by simpa [hk] using hp)⟩⟩
   simp [hk]
  ·refine ⟨none,?_,.inl ⟨rfl,all_none fun j hj=>by simpa [hj] using hp j hj⟩⟩
   simp
 obtain ⟨p,h127,hp⟩:=h127
 generalize (x.args.all fun y=>y.holds vs == true)=B at *
 rw [ev_call,pg191]
 simp at h127
 rcases hp with ⟨rfl,rfl⟩ | ⟨rfl,rfl⟩
 ·simp [ir191,ev_range,h127]
 ·simp [ir191,ev_range,h127]
abbrev slc:List V:=[.fn 171 [] [.bptr 0 0,.bptr 1 0],.bptr 5 0,.undef,.bptr 6 0,.undef,.fn 171 [] [.bptr 0 0,.bptr 1 0],.undef,.undef,.undef,.undef]
abbrev Mc (x:Ex) (vs:List Bool) (p:Option X):H:=B5 x vs++[⟨0,.box [.bool false]⟩]++[⟨0,.box [.bool false]⟩,⟨0,.loop slc [6] L191_0 L191_1 p⟩]
theorem yldc (x y:Ex) (vs:List Bool) (u:Bool):ev pg (.call (.yld 7) [.bool u] (Mc x vs none++[⟨0,.arr 0 []⟩,⟨0,.box y.cells⟩]))=some { v:=.bool (u == false),st:=⟨[],Mc x vs (if u=false then none else some .ret)++[⟨0,.arr 0 []⟩,⟨0,.box y.cells⟩]⟩ }:=by
 rw [ev_eq]
 cases u <;> simp [stepQ,L191_0,L191_1]
def T127c (x:Ex) (k:Nat):Tm:=[some (.yld 7),some (.bptr 0 0),some (.bptr 1 0),none,none,none,none,some (.imm (x.args.map Ex.row)),some (num x.args.length),some (num k)]++List.replicate 10 none
theorem lp127c (x:Ex) (vs:List Bool) (hx:x.nodes≤256) (ih:∀ y ∈ x.args,ev pg (.call (.fn 153 [] []) [y.v,bools vs] [])=some { v:=.bool (y.holds vs),st:=⟨[],[]⟩ }) {st:St} (h0:At (T127c x 0) (Mc x vs none) st):∃ r,ev pg (.code (.going 8 L171_0) st)=some r∧Finds x.args.length (fun k=>((x.args[k]?).map (Ex.holds vs)).getD false != false) (fun k=>EndsAs .ret (List.replicate 20 none) (Mc x vs (some .ret)++[⟨0,.arr 0 []⟩,⟨0,.box (((x.args[k]?).map Ex.cells).getD [])⟩])) (EndsAs (.exit 0) (List.replicate 20 none) (Mc x vs none)) r:=by
 have hfew:=args_few hx
 refine loop_first _ _ (T127c x) (Mc x vs none) _ _ ?_ ?_ ?_ h0
 ·intro k f hf hk hp
  have hk':(k:Int) < x.args.length:=by omega
  have wk:=wrap_id (n:=(k:Int) + 1) (by omega) (by omega)
  have hi:=ih _ (List.getElem_mem hk)
  have hh:x.args[k].holds vs=false:=by simpa [hk] using hp
  rw [hh] at hi
  have hy:=yldc x x.args[k] vs false
  simp at hy
  simp [T127c,L171_0,hk,hk',wk,hi,hy,hf.ne]
 ·intro k f hf hk hp
  have hk':(k:Int) < x.args.length:=by omega
  have hi:=ih _ (List.getElem_mem hk)
  have hh:x.args[k].holds vs=(!false):=by simpa [hk] using hp
  rw [hh] at hi
  have hy:=yldc x x.args[k] vs (!false)
  simp at hy hi
  simp [T127c,L171_0,hk,hk',hi,hy,hf.ne]
 ·intro f hf
  simp [T127c,L171_0,hf.ne]
theorem ev191c (x:Ex) (vs:List Bool) (hx:x.nodes≤256) (ih:∀ y ∈ x.args,ev pg (.call (.fn 153 [] []) [y.v,bools vs] [])=some { v:=.bool (y.holds vs),st:=⟨[],[]⟩ }):ev pg (.call (.fn 191 [] [.bptr 5 0]) [.fn 171 [] [.bptr 0 0,.bptr 1 0]] (B5 x vs++[⟨0,.box [.bool false]⟩]))=some { v:=.bool (x.args.all fun y=>y.holds vs == false),st:=⟨[],B5 x vs++[⟨0,.box [.bool false]⟩]⟩ }:=by
 have hl:=@lp127c x vs hx ih
 have h127:∃ p,ev pg (.call (.fn 171 [] [.bptr 0 0,.bptr 1 0]) [.yld 7] (Mc x vs none))=some { v:=.tup [],st:=⟨[],Mc x vs p⟩ }∧((p=none∧(x.args.all fun y=>y.holds vs == false)=true)∨(p=some .ret∧(x.args.all fun y=>y.holds vs == false)=false)):=by
  rw [ev_call,pg171]
  simp [-List.all_eq_true,-List.all_eq_false,ir171,ev_loop]
  generalize hr:ev pg (.code (.going _ L171_0) _)=o
  obtain ⟨r,rfl,hQ⟩:∃ r,o=some r∧_:=by rw [← hr]; exact hl (by simp [T127c])
  rcases hQ with ⟨k,hk,hp,-,f,hf,rfl⟩ | ⟨hp,f,hf,rfl⟩
  ·refine ⟨some .ret,?_,.inr ⟨rfl,all_hit hk (by simpa [hk] using hp)⟩⟩
   simp [hk]
  ·refine ⟨none,?_,.inl ⟨rfl,all_none fun j hj=>by simpa [hj] using hp j hj⟩⟩
   simp
 obtain ⟨p,h127,hp⟩:=h127
 generalize (x.args.all fun y=>y.holds vs == false)=B at *
 rw [ev_call,pg191]
 simp at h127
 rcases hp with ⟨rfl,rfl⟩ | ⟨rfl,rfl⟩
 ·simp [ir191,ev_range,h127]
 ·simp [ir191,ev_range,h127]
theorem ev187 (x:Ex) (vs:List Bool) (hx:x.nodes≤256) (ih:∀ y ∈ x.args,ev pg (.call (.fn 153 [] []) [y.v,bools vs] [])=some { v:=.bool (y.holds vs),st:=⟨[],[]⟩ }):ev pg (.call (.fn 187 [] []) [.fn 171 [] [.bptr 0 0,.bptr 1 0]] (B5 x vs))=some { v:=.bool (!(x.args.all fun y=>y.holds vs == false)),st:=⟨[],B5 x vs⟩ }:=by
 have h1:=ev186 false (B5 x vs)
 have h2:=ev191c x vs hx ih
 generalize (x.args.all fun y=>y.holds vs == false)=B at *
 rw [ev_call,pg187]
 simp at h1 h2
 simp [ir187,h1,h2]
theorem ev153 (vs:List Bool):∀ x:Ex,x.nodes≤256→x.err vs.length=0→ev pg (.call (.fn 153 [] []) [x.v,bools vs] [])=some { v:=.bool (x.holds vs),st:=⟨[],[]⟩ }:=by
 refine Ex.ind fun x ih hx he=>?_
 obtain ⟨hn,hargs⟩:=err_zero he
 have ih':∀ y ∈ x.args,ev pg (.call (.fn 153 [] []) [y.v,bools vs] [])=some { v:=.bool (y.holds vs),st:=⟨[],[]⟩ }:=fun y hy=>ih y hy (by have:=args_nodes hx hy; omega) (hargs y hy)
 have hop:x.op=0∨x.op=1∨x.op=2∨x.op=3∨x.op=4:=by
  unfold nodeE at hn
  by_cases h:x.op < 0∨5≤x.op
  ·rw [if_pos h] at hn; omega
  ·omega
 have h126:=ev170 x vs
 have a:=ev191a x vs hx ih'
 have b:=ev191b x vs hx ih'
 have d:=ev187 x vs hx ih'
 have ea:(x.args.map (Ex.holds vs)).all (!·)=x.args.all fun y=>y.holds vs == false:=by
  rw [List.all_map]; congr 1; funext y; cases h:y.holds vs <;> simp [h]
 have eb:(x.args.map (Ex.holds vs)).all id=x.args.all fun y=>y.holds vs == true:=by
  rw [List.all_map]; congr 1; funext y; cases h:y.holds vs <;> simp [h]
 have ed:(x.args.map (Ex.holds vs)).any id=!(x.args.all fun y=>y.holds vs == false):=by
  rw [List.any_map,List.not_all_eq_any_not]; congr 1; funext y; cases h:y.holds vs <;> simp [h]
 rw [holds_eq,ea,eb,ed]
 generalize (x.args.all fun y=>y.holds vs == false)=B1 at *
 generalize (x.args.all fun y=>y.holds vs == true)=B2 at *
 rw [ev_call,pg153]
 rcases hop with h | h | h | h | h
 ·simp [ir153,h]
 ·obtain ⟨hi0,hi1⟩:=node_var hn h
  have hin:x.idx.toNat < vs.length:=by omega
  simp [ir153,h,hi0,hin]
 ·simp [B5,Ex.cells,h] at h126 a
  simp [ev_draw1,exT,chkOk,ir153,h,h126,a]
 ·simp [B5,Ex.cells,h] at h126 b
  simp [ev_draw1,exT,chkOk,ir153,h,h126,b]
 ·simp [B5,Ex.cells,h] at h126 d
  simp [ev_draw1,exT,chkOk,ir153,h,h126,d]
theorem ev128 (x:Ex) (vs:List Bool) (hx:x.light=true) (hv:vs.length≤256) (he:x.check vs.length=0):ev pg (.call (.fn 128 [] []) [x.v,bools vs] [])=some { v:=.tup [.bool (x.holds vs),num 0],st:=⟨[],[]⟩ }:=by
 have h111:=ev152 x vs.length hx
 have he':x.err vs.length=0:=by
  unfold Ex.check at he
  rw [if_neg (by omega),if_pos hx] at he
  exact he
 have h112:=ev153 vs x (light_nodes hx).1 he'
 rw [he] at h111
 rw [ev_call,pg128]
 simp [ir128,h111,h112]
def Ste.few (s:Ste):Bool:=decide (s.ends.length≤40) && decide (s.valves.length≤40) && decide (s.inputs.length≤200) && decide (s.values.length≤200) && decide (s.timers.length≤200)
theorem fewS_parts {s:Ste} (h:s.few=true):s.ends.length≤40∧s.valves.length≤40∧s.inputs.length≤200∧s.values.length≤200∧s.timers.length≤200:=by
 simp only [Ste.few,Bool.and_eq_true,decide_eq_true_eq] at h
 exact ⟨h.1.1.1.1,h.1.1.1.2,h.1.1.2,h.1.2,h.2⟩
theorem ev37 (s:Ste):ev pg (.call (.fn 37 [] []) [s.v] [])=some { v:=.bool s.few,st:=⟨[],[]⟩ }:=by
 rw [ev_call,pg37]
 unfold Ste.few
 by_cases h1:s.ends.length≤40
 ·have g1:(s.ends.length:Int)≤40:=by omega
  by_cases h2:s.valves.length≤40
  ·have g2:(s.valves.length:Int)≤40:=by omega
   by_cases h3:s.inputs.length≤200
   ·have g3:(s.inputs.length:Int)≤200:=by omega
    by_cases h4:s.values.length≤200
    ·have g4:(s.values.length:Int)≤200:=by omega
     by_cases h5:s.timers.length≤200
     ·have g5:(s.timers.length:Int)≤200:=by omega
      simp [ir37,h1,h2,h3,h4,h5,g1,g2,g3,g4,g5]
     ·have g5:¬ (s.timers.length:Int)≤200:=by omega
      simp [ir37,h1,h2,h3,h4,h5,g1,g2,g3,g4,g5]
    ·have g4:¬ (s.values.length:Int)≤200:=by omega
     simp [ir37,h1,h2,h3,h4,g1,g2,g3,g4]
   ·have g3:¬ (s.inputs.length:Int)≤200:=by omega
    simp [ir37,h1,h2,h3,g1,g2,g3]
  ·have g2:¬ (s.valves.length:Int)≤40:=by omega
   simp [ir37,h1,h2,g1,g2]
 ·have g1:¬ (s.ends.length:Int)≤40:=by omega
  simp [ir37,h1,g1]
theorem ev9 (c:Ct) (s:Ste):ev pg (.call (.fn 9 [] []) [c.v,s.v] [])=some { v:=.bool (c.few && s.few),st:=⟨[],[]⟩ }:=by
 have h1:=ev30 c
 have h2:=ev37 s
 rw [ev_call,pg9]
 generalize c.few=b at *
 cases b <;> simp [ir9,h1,h2]
def sameT (a b:Ste):Bool:=decide (a.ends=b.ends) && (decide (a.valves=b.valves) && (decide (a.inputs=b.inputs) && (decide (a.values=b.values) && decide (a.timers=b.timers))))
theorem sameT_iff {a b:Ste}:sameT a b=true ↔ a=b:=by
 cases a; cases b
 simp [sameT]
structure Ste.small (s:Ste):Prop where
 e:s.ends.length≤4096
 w:s.valves.length≤4096
 i:s.inputs.length≤4096
 v:s.values.length≤4096
 t:s.timers.length≤4096
theorem few_smallS {s:Ste} (h:s.few=true):s.small:=by
 obtain ⟨h1,h2,h3,h4,h5⟩:=fewS_parts h
 exact ⟨by omega,by omega,by omega,by omega,by omega⟩
theorem ev20 (a b:Ste) (ha:a.small):ev pg (.call (.fn 20 [] []) [a.v,b.v] [])=some { v:=.bool (sameT a b),st:=⟨[],[]⟩ }:=by
 have h1:=ev58 a.ends b.ends ha.e
 have h2:=ev59 a.valves b.valves ha.w
 have h3:=ev59 a.inputs b.inputs ha.i
 have h4:=ev59 a.values b.values ha.v
 have h5:=ev58 a.timers b.timers ha.t
 rw [ev_call,pg20]
 unfold sameT
 generalize decide (a.ends=b.ends)=b1 at *
 generalize decide (a.valves=b.valves)=b2 at *
 generalize decide (a.inputs=b.inputs)=b3 at *
 generalize decide (a.values=b.values)=b4 at *
 cases b1 with
 | false=>simp [ir20,h1]
 | true=>cases b2 with
  | false=>simp [ir20,h1,h2]
  | true=>cases b3 with
   | false=>simp [ir20,h1,h2,h3]
   | true=>cases b4 with
    | false=>simp [ir20,h1,h2,h3,h4]
    | true=>simp [ir20,h1,h2,h3,h4,h5]
def tmB (kind:Int) (v:Bool) (t:Int):Bool:=(!decide (kind=2) && decide (t ≠ 0)) || (decide (kind=2) && (v != (t == 2)))
def tmF (c:Ct) (s:Ste) (k:Nat):Bool:=tmB ((c.signals[k]?).map Sg.kind |>.getD 0) ((s.values[k]?).getD false) ((s.timers[k]?).getD 0)
def anyF (p:Nat→Bool) (n:Nat):Bool:=(List.range n).any p
theorem anyF_of {p:Nat→Bool} {n k:Nat} (hk:k < n) (h:p k=true):anyF p n=true:=by
 unfold anyF; rw [List.any_eq_true]; exact ⟨k,List.mem_range.2 hk,h⟩
theorem anyF_not {p:Nat→Bool} {n:Nat} (h:∀ j,j < n→p j=false):anyF p n=false:=by
 unfold anyF; rw [List.any_eq_false]; intro k hk; rw [h k (List.mem_range.1 hk)]; simp
theorem any_of {p:Int→Bool} {l:List Int} {k:Nat} (hk:k < l.length) (h:p l[k]=true):l.any p=true:=by
 rw [List.any_eq_true]; exact ⟨_,List.getElem_mem hk,h⟩
theorem any_not {p:Int→Bool} {l:List Int} (h:∀ j (hj:j < l.length),p l[j]=false):l.any p=false:=by
 rw [List.any_eq_false]
 intro x hx
 obtain ⟨j,hj,rfl⟩:=List.getElem_of_mem hx
 rw [h j hj]; simp
structure Shp (c:Ct) (s:Ste):Prop where
 e:(s.ends.length:Int)=c.act
 w:(s.valves.length:Int)=c.act
 i:s.inputs.length=c.inputs.length
 v:s.values.length=c.signals.length
 t:s.timers.length=c.signals.length
instance (c:Ct) (s:Ste):Decidable (Shp c s) :=
 if h:(s.ends.length:Int)=c.act∧(s.valves.length:Int)=c.act∧s.inputs.length=c.inputs.length∧s.values.length=c.signals.length∧s.timers.length=c.signals.length then .isTrue ⟨h.1,h.2.1,h.2.2.1,h.2.2.2.1,h.2.2.2.2⟩
 else .isFalse fun a=>h ⟨a.e,a.w,a.i,a.v,a.t⟩
def fitE (c:Ct) (s:Ste):Int:=if Shp c s then (if s.ends.any (badL 4)=true∨s.timers.any (badL 3)=true then 1 else if anyF (tmF c s) s.timers.length=true then 14 else 0) else 8
abbrev h49 (c:Ct) (s:Ste):H:=[⟨0,.box c.cells⟩,⟨0,.box s.cells⟩]
def T49 (l:List (Option V)) (n:Nat):Tm:=[none,none,some (.bptr 0 0),some (.bptr 1 0),some (num 0)]++l++List.replicate n none
def T49r (e:Int):Tm:=[none,none,none,none,some (num e)]++List.replicate 128 none
theorem loop49a (c:Ct) (s:Ste) (hs:s.small) {st:St} (h0:At (T49 [some (num 0)] 127) (h49 c s) st):∃ r,ev pg (.code (.going 2 L67_0) st)=some r∧Finds s.ends.length (fun k=>badL 4 ((s.ends[k]?).getD 0)) (fun _=>EndsAs .ret (T49r 1) (h49 c s)) (EndsAs (.exit 0) (T49 [] 128) (h49 c s)) r:=by
 have hse:=hs.e
 refine loop_first _ _ (fun k=>T49 [some (num k)] 127) (h49 c s) _ _ ?_ ?_ ?_ h0
 ·intro k f hf hk hp
  have hk':(k:Int) < s.ends.length:=by omega
  have wk:=wrap_id (n:=(k:Int) + 1) (by omega) (by omega)
  have hp':¬ s.ends[k] < 0∧¬ 4≤s.ends[k]:=by simpa [badL,hk] using hp
  simp [T49,L67_0,hk,hk',hp',wk,hf.ne]
 ·intro k f hf hk hp
  have hk':(k:Int) < s.ends.length:=by omega
  have hp':s.ends[k] < 0∨4≤s.ends[k]:=by simpa [badL,hk] using hp
  rcases Int.lt_or_le s.ends[k] 0 with h | h
  ·simp [T49,T49r,L67_0,hk,hk',h,hf.ne]
  ·have h1:¬ s.ends[k] < 0:=by omega
   have h2:4≤s.ends[k]:=by omega
   simp [T49,T49r,L67_0,hk,hk',h1,h2,hf.ne]
 ·intro f hf
  simp [T49,L67_0,hf.ne]
theorem loop49b (c:Ct) (s:Ste) (hs:s.small) {st:St} (h0:At (T49 [none,some (num 0)] 126) (h49 c s) st):∃ r,ev pg (.code (.going 2 L67_1) st)=some r∧Finds s.timers.length (fun k=>badL 3 ((s.timers[k]?).getD 0)) (fun _=>EndsAs .ret (T49r 1) (h49 c s)) (EndsAs (.exit 2) (T49 [] 128) (h49 c s)) r:=by
 have hse:=hs.t
 refine loop_first _ _ (fun k=>T49 [none,some (num k)] 126) (h49 c s) _ _ ?_ ?_ ?_ h0
 ·intro k f hf hk hp
  have hk':(k:Int) < s.timers.length:=by omega
  have wk:=wrap_id (n:=(k:Int) + 1) (by omega) (by omega)
  have hp':¬ s.timers[k] < 0∧¬ 3≤s.timers[k]:=by simpa [badL,hk] using hp
  simp [T49,L67_1,hk,hk',hp',wk,hf.ne]
 ·intro k f hf hk hp
  have hk':(k:Int) < s.timers.length:=by omega
  have hp':s.timers[k] < 0∨3≤s.timers[k]:=by simpa [badL,hk] using hp
  rcases Int.lt_or_le s.timers[k] 0 with h | h
  ·simp [T49,T49r,L67_1,hk,hk',h,hf.ne]
  ·have h1:¬ s.timers[k] < 0:=by omega
   have h2:3≤s.timers[k]:=by omega
   simp [T49,T49r,L67_1,hk,hk',h1,h2,hf.ne]
 ·intro f hf
  simp [T49,L67_1,hf.ne]
theorem loop49c (c:Ct) (s:Ste) (hs:s.small) (hS:Shp c s) {st:St} (h0:At (T49 [none,none,some (num 0)] 125) (h49 c s) st):∃ r,ev pg (.code (.going 2 L67_2) st)=some r∧Finds s.timers.length (tmF c s) (fun _=>EndsAs .ret (T49r 14) (h49 c s)) (EndsAs (.exit 4) (T49 [] 128) (h49 c s)) r:=by
 have hse:=hs.t
 have hv:=hS.v
 have ht:=hS.t
 refine loop_first _ _ (fun k=>T49 [none,none,some (num k)] 125) (h49 c s) _ _ ?_ ?_ ?_ h0
 ·intro k f hf hk hp
  have hk':(k:Int) < s.timers.length:=by omega
  have hkv:k < s.values.length:=by omega
  have hkc:k < c.signals.length:=by omega
  have wk:=wrap_id (n:=(k:Int) + 1) (by omega) (by omega)
  have hp':tmB c.signals[k].kind s.values[k] s.timers[k]=false:=by simpa [tmF,hk,hkv,hkc] using hp
  simp [tmB] at hp'
  by_cases h2:c.signals[k].kind=2
  ·have hq:=hp'.2 h2
   simp [T49,L67_2,hk,hk',hkv,hkc,h2,hq,wk,hf.ne]
  ·have h0:=hp'.1 h2
   have h2b:(c.signals[k].kind == 2)=false:=by simpa using h2
   simp [T49,L67_2,hk,hk',hkv,hkc,h2b,h0,wk,hf.ne]
 ·intro k f hf hk hp
  have hk':(k:Int) < s.timers.length:=by omega
  have hkv:k < s.values.length:=by omega
  have hkc:k < c.signals.length:=by omega
  have hp':tmB c.signals[k].kind s.values[k] s.timers[k]=true:=by simpa [tmF,hk,hkv,hkc] using hp
  simp [tmB] at hp'
  by_cases h2:c.signals[k].kind=2
  ·have hq:¬ s.values[k]=(s.timers[k] == 2):=by simpa [h2] using hp'
   simp [T49,T49r,L67_2,hk,hk',hkv,hkc,h2,hq,hf.ne]
  ·have h0:(s.timers[k] != 0)=true:=by simpa [h2] using hp'
   have h2b:(c.signals[k].kind == 2)=false:=by simpa using h2
   simp [T49,T49r,L67_2,hk,hk',hkv,hkc,h2b,h0,hf.ne]
 ·intro f hf
  simp [T49,L67_2,hf.ne]
theorem shp_not {c:Ct} {s:Ste} (h:¬ Shp c s):((s.ends.length:Int) != c.act || ((s.valves.length:Int) != c.act || ((s.inputs.length:Int) != (c.inputs.length:Int) || ((s.values.length:Int) != (c.signals.length:Int) || ((s.timers.length:Int) != (c.signals.length:Int))))))=true:=by
 simp only [Bool.or_eq_true,bne_iff_ne]
 by_cases h1:(s.ends.length:Int)=c.act
 ·by_cases h2:(s.valves.length:Int)=c.act
  ·by_cases h3:(s.inputs.length:Int)=c.inputs.length
   ·by_cases h4:(s.values.length:Int)=c.signals.length
    ·by_cases h5:(s.timers.length:Int)=c.signals.length
     ·exact absurd ⟨h1,h2,by omega,by omega,by omega⟩ h
     ·simp [h5]
    ·simp [h4]
   ·simp [h3]
  ·simp [h2]
 ·simp [h1]
theorem ev67 (c:Ct) (s:Ste) (hs:s.small):ev pg (.call (.fn 67 [] []) [c.v,s.v] [])=some { v:=num (fitE c s),st:=⟨[],[]⟩ }:=by
 rw [ev_call,pg67]
 by_cases hS:Shp c s
 ·have hla:=@loop49a c s hs
  have hlb:=@loop49b c s hs
  have hlc:=@loop49c c s hs hS
  have e1:((s.ends.length:Int) != c.act)=false:=by simp [hS.e]
  have e2:((s.valves.length:Int) != c.act)=false:=by simp [hS.w]
  have e3:((s.inputs.length:Int) != (c.inputs.length:Int))=false:=by simp [hS.i]
  have e4:((s.values.length:Int) != (c.signals.length:Int))=false:=by simp [hS.v]
  have e5:((s.timers.length:Int) != (c.signals.length:Int))=false:=by simp [hS.t]
  unfold fitE
  rw [if_pos hS]
  generalize hB1:s.ends.any (badL 4)=B1
  generalize hB2:s.timers.any (badL 3)=B2
  generalize hB3:anyF (tmF c s) s.timers.length=B3
  simp [ir67,ev_loop,e1,e2,e3,e4,e5]
  generalize hr:ev pg (.code (.going _ L67_0) _)=o
  obtain ⟨r,rfl,hQ⟩:∃ r,o=some r∧_:=by rw [← hr]; exact hla (by simp [T49])
  rcases hQ with ⟨k,hk,hp,-,f,hf,rfl⟩ | ⟨hp,f,hf,rfl⟩
  ·obtain rfl:B1=true:=by rw [← hB1]; exact any_of hk (by simpa [hk] using hp)
   simp [T49r]
  ·obtain rfl:B1=false:=by rw [← hB1]; exact any_not fun j hj=>by simpa [hj] using hp j hj
   simp [T49,hf.ne,ev_loop]
   generalize hr:ev pg (.code (.going _ L67_1) _)=o
   obtain ⟨r,rfl,hQ⟩:∃ r,o=some r∧_:=by rw [← hr]; exact hlb (by simp [T49,hf.ne])
   rcases hQ with ⟨k,hk,hp,-,f,hf,rfl⟩ | ⟨hp,f,hf,rfl⟩
   ·obtain rfl:B2=true:=by rw [← hB2]; exact any_of hk (by simpa [hk] using hp)
    simp [T49r]
   ·obtain rfl:B2=false:=by rw [← hB2]; exact any_not fun j hj=>by simpa [hj] using hp j hj
    simp [T49,hf.ne,ev_loop]
    generalize hr:ev pg (.code (.going _ L67_2) _)=o
    obtain ⟨r,rfl,hQ⟩:∃ r,o=some r∧_:=by rw [← hr]; exact hlc (by simp [T49,hf.ne])
    rcases hQ with ⟨k,hk,hp,-,f,hf,rfl⟩ | ⟨hp,f,hf,rfl⟩
    ·obtain rfl:B3=true:=by rw [← hB3]; exact anyF_of hk hp
     simp [T49r]
    ·obtain rfl:B3=false:=by rw [← hB3]; exact anyF_not hp
     simp [T49]
 ·have hn:=shp_not hS
  unfold fitE
  rw [if_neg hS]
  generalize e1:((s.ends.length:Int) != c.act)=b1 at hn
  generalize e2:((s.valves.length:Int) != c.act)=b2 at hn
  generalize e3:((s.inputs.length:Int) != (c.inputs.length:Int))=b3 at hn
  generalize e4:((s.values.length:Int) != (c.signals.length:Int))=b4 at hn
  generalize e5:((s.timers.length:Int) != (c.signals.length:Int))=b5 at hn
  cases b1 with
  | true=>simp [ir67,e1]
  | false=>cases b2 with
   | true=>simp [ir67,e1,e2]
   | false=>cases b3 with
    | true=>simp [ir67,e1,e2,e3]
    | false=>cases b4 with
     | true=>simp [ir67,e1,e2,e3,e4]
     | false=>cases b5 with
      | true=>simp [ir67,e1,e2,e3,e4,e5]
      | false=>simp at hn
theorem ev27 (c:Ct) (s:Ste) (hfew:c.small=true) (hs:s.small):ev pg (.call (.fn 27 [] []) [c.v,s.v] [])=some { v:=num (if c.check=0 then fitE c s else c.check),st:=⟨[],[]⟩ }:=by
 have h1:=ev31 c hfew
 have h2:=ev67 c s hs
 rw [ev_call,pg27]
 generalize c.check=e at *
 by_cases he:e=0
 ·subst he
  simp [ir27,h1,h2]
 ·simp [ir27,h1,he]
end Go.Proofs.YtbhkplbciajikaaGreat
