/- Values of expressions, by the program. States: few, equal, right, by the reference. States: right, by the program. Clones, and lists one behind the other. The faulty control, by the reference: signals and pilots. The faulty control, by the reference: constants. The faulty control, by the reference: rounds. The faulty control, by the reference; injections. States that are carried over, by the reference. -/
import Derived.Test.YtlhciedghbmjjaaGreatSa1
import Derived.Test.YtlhciedghbmjjaaGreatLo1
import Derived.KernelRfl
set_option linter.all false
namespace Go.Proofs.YtlhciedghbmjjaaGreat
open Go Go.Am Go.Proofs
set_option maxRecDepth 100000
mutual
def Ex.holds(vs:List Bool):Ex->Bool
 | .mk o i l=>if o=0 then i==1 else if o=1 then(vs[i.toNat]?).getD false else if o=2 then(qxc vs l).all (!·)else if o=3 then(qxc vs l).all id else(qxc vs l).any id
def qxc(vs:List Bool):List Ex->List Bool
 | []=>[]
 | x :: l=>x.holds vs :: qxc vs l
end
theorem qxa(vs:List Bool):∀l:List Ex,qxc vs l=l.map (Ex.holds vs)
 | []=>rfl
 | x :: l=>by rw[qxc,qxa vs l];rfl
theorem qzt(vs:List Bool)(x:Ex):x.holds vs=if x.op=0 then x.idx==1 else if x.op=1 then(vs[x.idx.toNat]?).getD false else if x.op=2 then(x.args.map (Ex.holds vs)).all (!·)else if x.op=3 then(x.args.map (Ex.holds vs)).all id else(x.args.map (Ex.holds vs)).any id:=by
 cases x;rw[Ex.holds,qxa];rfl
abbrev sh5:List V:=[num 0,num 0,.nilfn,num 0,num 0,.nilfn,num 1,num 1,.fn 195 [] [.bptr 3 0],num 2,num 256,.fn 195 [] [.bptr 4 0],num 2,num 256,.fn 189 [] []]
abbrev B5(x:Ex)(vs:List Bool):H:=[⟨0,.box x.cells⟩,⟨0,.box [qcy vs]⟩,⟨0,.box sh5⟩,⟨0,.box [.bool false]⟩,⟨0,.box [.bool true]⟩]
theorem ev188(b:Bool)(h:H):ev pg (.call (.fn 188 [] []) [.bool b] h)=some { v:=.fn 195 [] [.bptr h.length 0],st:=⟨[],h++[⟨0,.box [.bool b]⟩]⟩ }:=by
 rw[qac,pg188]
 simp[ir188]
theorem ev179(x:Ex)(vs:List Bool):ev pg (.call (.fn 179 [] []) [] [⟨0,.box x.cells⟩,⟨0,.box [qcy vs]⟩])=some { v:=.agg sh5,st:=⟨[],B5 x vs⟩ }:=by
 have h1:=ev188 false
 have h2:=ev188 true
 rw[qac,pg179]
 simp[ir179,h1,h2]
theorem q4t{p:Ex->Bool}{l:List Ex}{k:Nat}(hk:k<l.length)(h:p l[k]=false):l.all p=false:=by
 rw[List.all_eq_false];exact⟨_,jH hk,by simp[h]⟩
theorem qyv{p:Ex->Bool}{l:List Ex}(h:∀j (hj:j<l.length),p l[j]=true):l.all p=true:=by
 rw[jP]
 intro x hx
 obtain⟨j,hj,rfl⟩:=List.getElem_of_mem hx
 exact h j hj
abbrev sla:List V:=[.fn 180 [] [.bptr 0 0,.bptr 1 0],.bptr 3 0,.undef,.bptr 5 0,.undef,.fn 180 [] [.bptr 0 0,.bptr 1 0],.undef,.undef,.undef,.undef]
abbrev Ma(x:Ex)(vs:List Bool)(p:Option X):H:=B5 x vs++[⟨0,.box [.bool false]⟩,⟨0,.loop sla [6] L195_0 L195_1 p⟩]
theorem jen(x y:Ex)(vs:List Bool)(u:Bool):ev pg (.call (.yld 6) [.bool u] (Ma x vs none++[⟨0,.arr 0 []⟩,⟨0,.box y.cells⟩]))=some { v:=.bool (u==false),st:=⟨[],Ma x vs (if u=false then none else some .ret)++[⟨0,.arr 0 []⟩,⟨0,.box y.cells⟩]⟩ }:=by
 rw[qki]
 cases u<;>simp[qcj,L195_0,L195_1]
def q8u(x:Ex)(k:Nat):Tm:=[some (.yld 6),some (.bptr 0 0),some (.bptr 1 0),none,none,none,none,some (.imm (x.args.map Ex.row)),some (num x.args.length),some (num k)]++List.replicate 10 none
theorem zyc(x:Ex)(vs:List Bool)(hx:x.nodes<=256)(ih:∀y∈x.args,ev pg (.call (.fn 157 [] []) [y.v,qcy vs] [])=some { v:=.bool (y.holds vs),st:=⟨[],[]⟩ }){st:St}(h0:At (q8u x 0) (Ma x vs none) st):∃r,ev pg (.code (.going 7 L180_0) st)=some r/\qkt x.args.length (fun k=>((x.args[k]?).map (Ex.holds vs)).getD false != false) (fun k=>qag .ret (List.replicate 20 none) (Ma x vs (some .ret)++[⟨0,.arr 0 []⟩,⟨0,.box (((x.args[k]?).map Ex.cells).getD [])⟩])) (qag (.exit 0) (List.replicate 20 none) (Ma x vs none)) r:=by
 have hfew:=qfv hx
 refine qcw _ _ (q8u x) (Ma x vs none) _ _ ?_ ?_ ?_ h0
 .intro k f hf hk hp
  have hk':(k:Int)<x.args.length:=by omega
  have wk:=qab (n:=(k:Int)+1) (by omega) (by omega)
  have hi:=ih _ (jH hk)
  have hh:x.args[k].holds vs=false:=by simpa[hk]using hp
  rw[hh]at hi
  have hy:=jen x x.args[k] vs false
  simp at hy
  simp[q8u,L180_0,hk,hk',wk,hi,hy,hf.ne]
 .intro k f hf hk hp
  have hk':(k:Int)<x.args.length:=by omega
  have hi:=ih _ (jH hk)
  have hh:x.args[k].holds vs=(!false):=by simpa[hk]using hp
  rw[hh]at hi
  have hy:=jen x x.args[k] vs (!false)
  simp at hy hi
  simp[q8u,L180_0,hk,hk',hi,hy,hf.ne]
 .intro f hf
  simp[q8u,L180_0,hf.ne]
theorem ev195a(x:Ex)(vs:List Bool)(hx:x.nodes<=256)(ih:∀y∈x.args,ev pg (.call (.fn 157 [] []) [y.v,qcy vs] [])=some { v:=.bool (y.holds vs),st:=⟨[],[]⟩ }):ev pg (.call (.fn 195 [] [.bptr 3 0]) [.fn 180 [] [.bptr 0 0,.bptr 1 0]] (B5 x vs))=some { v:=.bool (x.args.all fun y=>y.holds vs==false),st:=⟨[],B5 x vs⟩ }:=by
 have hl:=@zyc x vs hx ih
 have h127:∃p,ev pg (.call (.fn 180 [] [.bptr 0 0,.bptr 1 0]) [.yld 6] (Ma x vs none))=some { v:=.tup [],st:=⟨[],Ma x vs p⟩ }/\((p=none/\(x.args.all fun y=>y.holds vs==false)=true)\/(p=some .ret/\(x.args.all fun y=>y.holds vs==false)=false)):=by
  rw[qac,pg180]
  simp[-List.all_eq_true,-List.all_eq_false,ir180,qaf]
  generalize hr:ev pg (.code (.going _ L180_0) _)=o
  obtain⟨r,rfl,hQ⟩:∃r,o=some r/\_:=by rw[<-hr];exact hl (by simp[q8u])
  rcases hQ with⟨k,hk,hp,-,f,hf,rfl⟩ | ⟨hp,f,hf,rfl⟩
  .refine⟨some .ret,?_,.inr ⟨rfl,q4t hk (by simpa[hk]using hp)⟩⟩
   simp[hk]
  .refine⟨none,?_,.inl ⟨rfl,qyv fun j hj=>by simpa[hj]using hp j hj⟩⟩
   simp
 obtain⟨p,h127,hp⟩:=h127
 generalize (x.args.all fun y=>y.holds vs==false)=B at *
 rw[qac,pg195]
 simp at h127
 rcases hp with⟨rfl,rfl⟩ | ⟨rfl,rfl⟩
 .simp[ir195,qhh,h127]
 .simp[ir195,qhh,h127]
abbrev slb:List V:=[.fn 180 [] [.bptr 0 0,.bptr 1 0],.bptr 4 0,.undef,.bptr 5 0,.undef,.fn 180 [] [.bptr 0 0,.bptr 1 0],.undef,.undef,.undef,.undef]
abbrev Mb(x:Ex)(vs:List Bool)(p:Option X):H:=B5 x vs++[⟨0,.box [.bool false]⟩,⟨0,.loop slb [6] L195_0 L195_1 p⟩]
theorem jee(x y:Ex)(vs:List Bool)(u:Bool):ev pg (.call (.yld 6) [.bool u] (Mb x vs none++[⟨0,.arr 0 []⟩,⟨0,.box y.cells⟩]))=some { v:=.bool (u==true),st:=⟨[],Mb x vs (if u=true then none else some .ret)++[⟨0,.arr 0 []⟩,⟨0,.box y.cells⟩]⟩ }:=by
 rw[qki]
 cases u<;>simp[qcj,L195_0,L195_1]
def q8p(x:Ex)(k:Nat):Tm:=[some (.yld 6),some (.bptr 0 0),some (.bptr 1 0),none,none,none,none,some (.imm (x.args.map Ex.row)),some (num x.args.length),some (num k)]++List.replicate 10 none
theorem zyt(x:Ex)(vs:List Bool)(hx:x.nodes<=256)(ih:∀y∈x.args,ev pg (.call (.fn 157 [] []) [y.v,qcy vs] [])=some { v:=.bool (y.holds vs),st:=⟨[],[]⟩ }){st:St}(h0:At (q8p x 0) (Mb x vs none) st):∃r,ev pg (.code (.going 7 L180_0) st)=some r/\qkt x.args.length (fun k=>((x.args[k]?).map (Ex.holds vs)).getD true != true) (fun k=>qag .ret (List.replicate 20 none) (Mb x vs (some .ret)++[⟨0,.arr 0 []⟩,⟨0,.box (((x.args[k]?).map Ex.cells).getD [])⟩])) (qag (.exit 0) (List.replicate 20 none) (Mb x vs none)) r:=by
 have hfew:=qfv hx
 refine qcw _ _ (q8p x) (Mb x vs none) _ _ ?_ ?_ ?_ h0
 .intro k f hf hk hp
  have hk':(k:Int)<x.args.length:=by omega
  have wk:=qab (n:=(k:Int)+1) (by omega) (by omega)
  have hi:=ih _ (jH hk)
  have hh:x.args[k].holds vs=true:=by simpa[hk]using hp
  rw[hh]at hi
  have hy:=jee x x.args[k] vs true
  simp at hy
  simp[q8p,L180_0,hk,hk',wk,hi,hy,hf.ne]
 .intro k f hf hk hp
  have hk':(k:Int)<x.args.length:=by omega
  have hi:=ih _ (jH hk)
  have hh:x.args[k].holds vs=(!true):=by simpa[hk]using hp
  rw[hh]at hi
  have hy:=jee x x.args[k] vs (!true)
  simp at hy hi
  simp[q8p,L180_0,hk,hk',hi,hy,hf.ne]
 .intro f hf
  simp[q8p,L180_0,hf.ne]
theorem ev195b(x:Ex)(vs:List Bool)(hx:x.nodes<=256)(ih:∀y∈x.args,ev pg (.call (.fn 157 [] []) [y.v,qcy vs] [])=some { v:=.bool (y.holds vs),st:=⟨[],[]⟩ }):ev pg (.call (.fn 195 [] [.bptr 4 0]) [.fn 180 [] [.bptr 0 0,.bptr 1 0]] (B5 x vs))=some { v:=.bool (x.args.all fun y=>y.holds vs==true),st:=⟨[],B5 x vs⟩ }:=by
 have hl:=@zyt x vs hx ih
 have h127:∃p,ev pg (.call (.fn 180 [] [.bptr 0 0,.bptr 1 0]) [.yld 6] (Mb x vs none))=some { v:=.tup [],st:=⟨[],Mb x vs p⟩ }/\((p=none/\(x.args.all fun y=>y.holds vs==true)=true)\/(p=some .ret/\(x.args.all fun y=>y.holds vs==true)=false)):=by
  rw[qac,pg180]
  simp[-List.all_eq_true,-List.all_eq_false,ir180,qaf]
  generalize hr:ev pg (.code (.going _ L180_0) _)=o
  obtain⟨r,rfl,hQ⟩:∃r,o=some r/\_:=by rw[<-hr];exact hl (by simp[q8p])
  rcases hQ with⟨k,hk,hp,-,f,hf,rfl⟩ | ⟨hp,f,hf,rfl⟩
  .refine⟨some .ret,?_,.inr ⟨rfl,q4t hk (by simpa[hk]using hp)⟩⟩
   simp[hk]
  .refine⟨none,?_,.inl ⟨rfl,qyv fun j hj=>by simpa[hj]using hp j hj⟩⟩
   simp
 obtain⟨p,h127,hp⟩:=h127
 generalize (x.args.all fun y=>y.holds vs==true)=B at *
 rw[qac,pg195]
 simp at h127
 rcases hp with⟨rfl,rfl⟩ | ⟨rfl,rfl⟩
 .simp[ir195,qhh,h127]
 .simp[ir195,qhh,h127]
abbrev slc:List V:=[.fn 180 [] [.bptr 0 0,.bptr 1 0],.bptr 5 0,.undef,.bptr 6 0,.undef,.fn 180 [] [.bptr 0 0,.bptr 1 0],.undef,.undef,.undef,.undef]
abbrev Mc(x:Ex)(vs:List Bool)(p:Option X):H:=B5 x vs++[⟨0,.box [.bool false]⟩]++[⟨0,.box [.bool false]⟩,⟨0,.loop slc [6] L195_0 L195_1 p⟩]
theorem jeu(x y:Ex)(vs:List Bool)(u:Bool):ev pg (.call (.yld 7) [.bool u] (Mc x vs none++[⟨0,.arr 0 []⟩,⟨0,.box y.cells⟩]))=some { v:=.bool (u==false),st:=⟨[],Mc x vs (if u=false then none else some .ret)++[⟨0,.arr 0 []⟩,⟨0,.box y.cells⟩]⟩ }:=by
 rw[qki]
 cases u<;>simp[qcj,L195_0,L195_1]
def q9s(x:Ex)(k:Nat):Tm:=[some (.yld 7),some (.bptr 0 0),some (.bptr 1 0),none,none,none,none,some (.imm (x.args.map Ex.row)),some (num x.args.length),some (num k)]++List.replicate 10 none
theorem z0t(x:Ex)(vs:List Bool)(hx:x.nodes<=256)(ih:∀y∈x.args,ev pg (.call (.fn 157 [] []) [y.v,qcy vs] [])=some { v:=.bool (y.holds vs),st:=⟨[],[]⟩ }){st:St}(h0:At (q9s x 0) (Mc x vs none) st):∃r,ev pg (.code (.going 8 L180_0) st)=some r/\qkt x.args.length (fun k=>((x.args[k]?).map (Ex.holds vs)).getD false != false) (fun k=>qag .ret (List.replicate 20 none) (Mc x vs (some .ret)++[⟨0,.arr 0 []⟩,⟨0,.box (((x.args[k]?).map Ex.cells).getD [])⟩])) (qag (.exit 0) (List.replicate 20 none) (Mc x vs none)) r:=by
 have hfew:=qfv hx
 refine qcw _ _ (q9s x) (Mc x vs none) _ _ ?_ ?_ ?_ h0
 .intro k f hf hk hp
  have hk':(k:Int)<x.args.length:=by omega
  have wk:=qab (n:=(k:Int)+1) (by omega) (by omega)
  have hi:=ih _ (jH hk)
  have hh:x.args[k].holds vs=false:=by simpa[hk]using hp
  rw[hh]at hi
  have hy:=jeu x x.args[k] vs false
  simp at hy
  simp[q9s,L180_0,hk,hk',wk,hi,hy,hf.ne]
 .intro k f hf hk hp
  have hk':(k:Int)<x.args.length:=by omega
  have hi:=ih _ (jH hk)
  have hh:x.args[k].holds vs=(!false):=by simpa[hk]using hp
  rw[hh]at hi
  have hy:=jeu x x.args[k] vs (!false)
  simp at hy hi
  simp[q9s,L180_0,hk,hk',hi,hy,hf.ne]
 .intro f hf
  simp[q9s,L180_0,hf.ne]
theorem ev195c(x:Ex)(vs:List Bool)(hx:x.nodes<=256)(ih:∀y∈x.args,ev pg (.call (.fn 157 [] []) [y.v,qcy vs] [])=some { v:=.bool (y.holds vs),st:=⟨[],[]⟩ }):ev pg (.call (.fn 195 [] [.bptr 5 0]) [.fn 180 [] [.bptr 0 0,.bptr 1 0]] (B5 x vs++[⟨0,.box [.bool false]⟩]))=some { v:=.bool (x.args.all fun y=>y.holds vs==false),st:=⟨[],B5 x vs++[⟨0,.box [.bool false]⟩]⟩ }:=by
 have hl:=@z0t x vs hx ih
 have h127:∃p,ev pg (.call (.fn 180 [] [.bptr 0 0,.bptr 1 0]) [.yld 7] (Mc x vs none))=some { v:=.tup [],st:=⟨[],Mc x vs p⟩ }/\((p=none/\(x.args.all fun y=>y.holds vs==false)=true)\/(p=some .ret/\(x.args.all fun y=>y.holds vs==false)=false)):=by
  rw[qac,pg180]
  simp[-List.all_eq_true,-List.all_eq_false,ir180,qaf]
  generalize hr:ev pg (.code (.going _ L180_0) _)=o
  obtain⟨r,rfl,hQ⟩:∃r,o=some r/\_:=by rw[<-hr];exact hl (by simp[q9s])
  rcases hQ with⟨k,hk,hp,-,f,hf,rfl⟩ | ⟨hp,f,hf,rfl⟩
  .refine⟨some .ret,?_,.inr ⟨rfl,q4t hk (by simpa[hk]using hp)⟩⟩
   simp[hk]
  .refine⟨none,?_,.inl ⟨rfl,qyv fun j hj=>by simpa[hj]using hp j hj⟩⟩
   simp
 obtain⟨p,h127,hp⟩:=h127
 generalize (x.args.all fun y=>y.holds vs==false)=B at *
 rw[qac,pg195]
 simp at h127
 rcases hp with⟨rfl,rfl⟩ | ⟨rfl,rfl⟩
 .simp[ir195,qhh,h127]
 .simp[ir195,qhh,h127]
theorem ev189(x:Ex)(vs:List Bool)(hx:x.nodes<=256)(ih:∀y∈x.args,ev pg (.call (.fn 157 [] []) [y.v,qcy vs] [])=some { v:=.bool (y.holds vs),st:=⟨[],[]⟩ }):ev pg (.call (.fn 189 [] []) [.fn 180 [] [.bptr 0 0,.bptr 1 0]] (B5 x vs))=some { v:=.bool (!(x.args.all fun y=>y.holds vs==false)),st:=⟨[],B5 x vs⟩ }:=by
 have h1:=ev188 false (B5 x vs)
 have h2:=ev195c x vs hx ih
 generalize (x.args.all fun y=>y.holds vs==false)=B at *
 rw[qac,pg189]
 simp at h1 h2
 simp[ir189,h1,h2]
theorem ev157(vs:List Bool):∀x:Ex,x.nodes<=256->x.err vs.length=0->ev pg (.call (.fn 157 [] []) [x.v,qcy vs] [])=some { v:=.bool (x.holds vs),st:=⟨[],[]⟩ }:=by
 refine Ex.ind fun x ih hx he=>?_
 obtain⟨hn,hargs⟩:=qpi he
 have ih':∀y∈x.args,ev pg (.call (.fn 157 [] []) [y.v,qcy vs] [])=some { v:=.bool (y.holds vs),st:=⟨[],[]⟩ }:=fun y hy=>ih y hy (by have:=qfn hx hy;omega) (hargs y hy)
 have hop:x.op=0\/x.op=1\/x.op=2\/x.op=3\/x.op=4:=by
  unfold qbm at hn
  by_cases h:x.op<0\/5<=x.op
  .rw[if_pos h]at hn;omega
  .omega
 have q2s:=ev179 x vs
 have a:=ev195a x vs hx ih'
 have b:=ev195b x vs hx ih'
 have d:=ev189 x vs hx ih'
 have ea:(x.args.map (Ex.holds vs)).all (!·)=x.args.all fun y=>y.holds vs==false:=by
  rw[List.all_map];congr 1;funext y;cases h:y.holds vs<;>simp[h]
 have eb:(x.args.map (Ex.holds vs)).all id=x.args.all fun y=>y.holds vs==true:=by
  rw[List.all_map];congr 1;funext y;cases h:y.holds vs<;>simp[h]
 have ed:(x.args.map (Ex.holds vs)).any id=!(x.args.all fun y=>y.holds vs==false):=by
  rw[List.any_map,List.not_all_eq_any_not];congr 1;funext y;cases h:y.holds vs<;>simp[h]
 rw[qzt,ea,eb,ed]
 generalize (x.args.all fun y=>y.holds vs==false)=B1 at *
 generalize (x.args.all fun y=>y.holds vs==true)=B2 at *
 rw[qac,pg157]
 rcases hop with h | h | h | h | h
 .simp[ir157,h]
 .obtain⟨hi0,hi1⟩:=qso hn h
  have hin:x.idx.toNat<vs.length:=by omega
  simp[ir157,h,hi0,hin]
 .simp[B5,Ex.cells,h]at q2s a
  simp[qaa,exT,qae,ir157,h,q2s,a]
 .simp[B5,Ex.cells,h]at q2s b
  simp[qaa,exT,qae,ir157,h,q2s,b]
 .simp[B5,Ex.cells,h]at q2s d
  simp[qaa,exT,qae,ir157,h,q2s,d]
theorem ev124(x:Ex)(vs:List Bool)(hx:x.light=true)(hv:vs.length<=256)(he:x.check vs.length=0):ev pg (.call (.fn 124 [] []) [x.v,qcy vs] [])=some { v:=.tup [.bool (x.holds vs),num 0],st:=⟨[],[]⟩ }:=by
 have h111:=ev150 x vs.length hx
 have he':x.err vs.length=0:=by
  unfold Ex.check at he
  rw[if_neg (by omega),if_pos hx]at he
  exact he
 have h112:=ev157 vs x (qes hx).1 he'
 rw[he]at h111
 rw[qac,pg124]
 simp[ir124,h111,h112]
def Ste.few(s:Ste):Bool:=decide (s.ends.length<=40)&&decide (s.valves.length<=40)&&decide (s.inputs.length<=200)&&decide (s.values.length<=200)&&decide (s.timers.length<=200)
def qic(a b:Ste):Bool:=decide (a.ends=b.ends)&&(decide (a.valves=b.valves)&&(decide (a.inputs=b.inputs)&&(decide (a.values=b.values)&&decide (a.timers=b.timers))))
theorem qia{a b:Ste}:qic a b=true<->a=b:=by
 cases a;cases b
 simp[qic]
structure Ste.small(s:Ste):Prop where
 e:s.ends.length<=4096
 w:s.valves.length<=4096
 i:s.inputs.length<=4096
 v:s.values.length<=4096
 t:s.timers.length<=4096
theorem ev31(a b:Ste)(ha:a.small):ev pg (.call (.fn 31 [] []) [a.v,b.v] [])=some { v:=.bool (qic a b),st:=⟨[],[]⟩ }:=by
 have h1:=ev60 a.ends b.ends ha.e
 have h2:=ev61 a.valves b.valves ha.w
 have h3:=ev61 a.inputs b.inputs ha.i
 have h4:=ev61 a.values b.values ha.v
 have h5:=ev60 a.timers b.timers ha.t
 rw[qac,pg31]
 unfold qic
 generalize decide (a.ends=b.ends)=b1 at *
 generalize decide (a.valves=b.valves)=b2 at *
 generalize decide (a.inputs=b.inputs)=b3 at *
 generalize decide (a.values=b.values)=b4 at *
 cases b1 with
 | false=>simp[ir31,h1]
 | true=>cases b2 with
  | false=>simp[ir31,h1,h2]
  | true=>cases b3 with
   | false=>simp[ir31,h1,h2,h3]
   | true=>cases b4 with
    | false=>simp[ir31,h1,h2,h3,h4]
    | true=>simp[ir31,h1,h2,h3,h4,h5]
def tmB(kind:Int)(v:Bool)(t:Int):Bool:=(!decide (kind=2)&&decide (t≠0))||(decide (kind=2)&&(v != (t==2)))
def tmF(c:Ct)(s:Ste)(k:Nat):Bool:=tmB ((c.signals[k]?).map Sg.kind |>.getD 0) ((s.values[k]?).getD false) ((s.timers[k]?).getD 0)
def zuc(p:Nat->Bool)(n:Nat):Bool:=(List.range n).any p
theorem q5j{p:Nat->Bool}{n k:Nat}(hk:k<n)(h:p k=true):zuc p n=true:=by
 unfold zuc;rw[List.any_eq_true];exact⟨k,List.mem_range.2 hk,h⟩
theorem q0h{p:Nat->Bool}{n:Nat}(h:∀j,j<n->p j=false):zuc p n=false:=by
 unfold zuc;rw[List.any_eq_false];intro k hk;rw[h k (List.mem_range.1 hk)];simp
structure Shp(c:Ct)(s:Ste):Prop where
 e:(s.ends.length:Int)=c.act
 w:(s.valves.length:Int)=c.act
 i:s.inputs.length=c.inputs.length
 v:s.values.length=c.signals.length
 t:s.timers.length=c.signals.length
instance(c:Ct)(s:Ste):Decidable (Shp c s) :=
 if h:(s.ends.length:Int)=c.act/\(s.valves.length:Int)=c.act/\s.inputs.length=c.inputs.length/\s.values.length=c.signals.length/\s.timers.length=c.signals.length then .isTrue ⟨h.1,h.2.1,h.2.2.1,h.2.2.2.1,h.2.2.2.2⟩
 else .isFalse fun a=>h ⟨a.e,a.w,a.i,a.v,a.t⟩
def zgl(c:Ct)(s:Ste):Int:=if Shp c s then(if s.ends.any (qfe 4)=true\/s.timers.any (qfe 3)=true then 1 else if zuc (tmF c s) s.timers.length=true then 14 else 0)else 8
abbrev h49(c:Ct)(s:Ste):H:=[⟨0,.box c.cells⟩,⟨0,.box s.cells⟩]
theorem zsj{c:Ct}{s:Ste}(h:¬Shp c s):((s.ends.length:Int) != c.act||((s.valves.length:Int) != c.act||((s.inputs.length:Int) != (c.inputs.length:Int)||((s.values.length:Int) != (c.signals.length:Int)||((s.timers.length:Int) != (c.signals.length:Int))))))=true:=by
 simp only[Bool.or_eq_true,bne_iff_ne]
 by_cases h1:(s.ends.length:Int)=c.act
 .by_cases h2:(s.valves.length:Int)=c.act
  .by_cases h3:(s.inputs.length:Int)=c.inputs.length
   .by_cases h4:(s.values.length:Int)=c.signals.length
    .by_cases h5:(s.timers.length:Int)=c.signals.length
     .exact absurd ⟨h1,h2,by omega,by omega,by omega⟩ h
     .simp[h5]
    .simp[h4]
   .simp[h3]
  .simp[h2]
 .simp[h1]
theorem ev159{h:H}{i:Nat}{m:Int}(hi:h[i]?=some ⟨0,.box [num m]⟩)(hcl:qck h)(n:Int):ev pg (.call (.fn 159 [] [.bptr i 0]) [num n] h)=some { v:=.bool (qfe m n),st:=⟨[],h⟩ }:=by
 have hck:=qeb hcl
 rw[qac,pg159]
 unfold qfe
 by_cases h1:n<0
 .simp[-qaq,ir159,h1,hck]
 .simp[-qaq,ir159,h1,hi,hck]
theorem ev158(n:Int)(h:H):ev pg (.call (.fn 158 [] []) [num n] h)=some { v:=.fn 159 [] [.bptr h.length 0],st:=⟨[],h++[⟨0,.box [num n]⟩]⟩ }:=by
 rw[qac,pg158]
 simp[ir158]
abbrev zzr(c:Ct)(s:Ste):H:=[⟨0,.box c.cells⟩,⟨0,.box s.cells⟩,⟨0,.box [num 4]⟩,⟨0,.box [num 3]⟩]
def T79(c:Ct)(s:Ste)(k:Nat):Tm:=[none,none,some (.bptr 0 0),some (.bptr 1 0)]++List.replicate 59 none++[some (qbx s.timers),some (num s.timers.length),some (num k)]++List.replicate 31 none
def z6l:Tm:=[none,none,none,none,some (num 14)]++List.replicate 92 none
theorem zwj(c:Ct)(s:Ste)(hs:s.small)(hS:Shp c s){st:St}(h0:At (T79 c s 0) (zzr c s) st):∃r,ev pg (.code (.going 4 L126_0) st)=some r/\qkt s.timers.length (tmF c s) (fun _=>qag .ret z6l (zzr c s)) (qag (.exit 0) (T79 c s s.timers.length) (zzr c s)) r:=by
 have hse:=hs.t
 have hv:=hS.v
 have ht:=hS.t
 refine qcw _ _ (T79 c s) (zzr c s) _ _ ?_ ?_ ?_ h0
 .intro k f hf hk hp
  have hk':(k:Int)<s.timers.length:=by omega
  have hkv:k<s.values.length:=by omega
  have hkc:k<c.signals.length:=by omega
  have wk:=qab (n:=(k:Int)+1) (by omega) (by omega)
  have hp':tmB c.signals[k].kind s.values[k] s.timers[k]=false:=by simpa[tmF,hk,hkv,hkc]using hp
  simp[tmB]at hp'
  by_cases h2:c.signals[k].kind=2
  .have hq:=hp'.2 h2
   simp[T79,L126_0,hk,hk',hkv,hkc,h2,hq,wk,hf.ne]
  .have h0:=hp'.1 h2
   have h2b:(c.signals[k].kind==2)=false:=by simpa using h2
   simp[T79,L126_0,hk,hk',hkv,hkc,h2b,h0,wk,hf.ne]
 .intro k f hf hk hp
  have hk':(k:Int)<s.timers.length:=by omega
  have hkv:k<s.values.length:=by omega
  have hkc:k<c.signals.length:=by omega
  have hp':tmB c.signals[k].kind s.values[k] s.timers[k]=true:=by simpa[tmF,hk,hkv,hkc]using hp
  simp[tmB]at hp'
  by_cases h2:c.signals[k].kind=2
  .have hq:¬s.values[k]=(s.timers[k]==2):=by simpa[h2]using hp'
   simp[T79,z6l,L126_0,hk,hk',hkv,hkc,h2,hq,hf.ne]
  .have h0:(s.timers[k] != 0)=true:=by simpa[h2]using hp'
   have h2b:(c.signals[k].kind==2)=false:=by simpa using h2
   simp[T79,z6l,L126_0,hk,hk',hkv,hkc,h2b,h0,hf.ne]
 .intro f hf
  simp[T79,L126_0,hf.ne]
theorem ev126(c:Ct)(s:Ste)(hs:s.small):ev pg (.call (.fn 126 [] []) [c.v,s.v] [])=some { v:=num (zgl c s),st:=⟨[],[]⟩ }:=by
 rw[qac,pg126]
 by_cases hS:Shp c s
 .have hl:=@zwj c s hs hS
  have e1:((s.ends.length:Int) != c.act)=false:=by simp[hS.e]
  have e2:((s.valves.length:Int) != c.act)=false:=by simp[hS.w]
  have e3:((s.inputs.length:Int) != (c.inputs.length:Int))=false:=by simp[hS.i]
  have e4:((s.values.length:Int) != (c.signals.length:Int))=false:=by simp[hS.v]
  have e5:((s.timers.length:Int) != (c.signals.length:Int))=false:=by simp[hS.t]
  have m4:=ev158 4 (h49 c s)
  have m3:=ev158 3 [⟨0,.box c.cells⟩,⟨0,.box s.cells⟩,⟨0,.box [num 4]⟩]
  have a4:=ev113 (f:=159) (caps:=[.bptr 2 0]) (h:=[⟨0,.box c.cells⟩,⟨0,.box s.cells⟩,⟨0,.box [num 4]⟩]) (l:=s.ends) (p:=qfe 4) hs.e rfl rfl (ev159 (by rfl) (by simp[qck])) (by simp[qck])
  have a3:=ev113 (f:=159) (caps:=[.bptr 3 0]) (h:=zzr c s) (l:=s.timers) (p:=qfe 3) hs.t rfl rfl (ev159 (by rfl) (by simp[qck])) (by simp[qck])
  unfold zgl
  rw[if_pos hS]
  generalize s.ends.any (qfe 4)=b1 at *
  generalize s.timers.any (qfe 3)=b2 at *
  generalize hB3:zuc (tmF c s) s.timers.length=B3
  cases b1 with
  | true=>simp[qaa,exT,qae,ir126,e1,e2,e3,e4,e5,m4,a4]
  | false=>cases b2 with
   | true=>simp[qaa,exT,qae,ir126,e1,e2,e3,e4,e5,m4,a4,m3,a3]
   | false =>
    simp[qaa,exT,qae,ir126,qaf,e1,e2,e3,e4,e5,m4,a4,m3,a3]
    generalize hr:ev pg (.code (.going _ L126_0) _)=o
    obtain⟨r,rfl,hQ⟩:∃r,o=some r/\_:=by rw[<-hr];exact hl (by simp[T79])
    rcases hQ with⟨k,hk,hp,-,f,hf,rfl⟩ | ⟨hp,f,hf,rfl⟩
    .obtain rfl:B3=true:=by rw[<-hB3];exact q5j hk hp
     simp[z6l]
    .obtain rfl:B3=false:=by rw[<-hB3];exact q0h hp
     simp[T79]
 .have hn:=zsj hS
  unfold zgl
  rw[if_neg hS]
  generalize e1:((s.ends.length:Int) != c.act)=b1 at hn
  generalize e2:((s.valves.length:Int) != c.act)=b2 at hn
  generalize e3:((s.inputs.length:Int) != (c.inputs.length:Int))=b3 at hn
  generalize e4:((s.values.length:Int) != (c.signals.length:Int))=b4 at hn
  generalize e5:((s.timers.length:Int) != (c.signals.length:Int))=b5 at hn
  cases b1 with
  | true=>simp[ir126,e1]
  | false=>cases b2 with
   | true=>simp[ir126,e1,e2]
   | false=>cases b3 with
    | true=>simp[ir126,e1,e2,e3]
    | false=>cases b4 with
     | true=>simp[ir126,e1,e2,e3,e4]
     | false=>cases b5 with
      | true=>simp[ir126,e1,e2,e3,e4,e5]
      | false=>simp at hn
abbrev stE(c:Ct)(s:Ste):Int:=if c.check=0 then zgl c s else c.check
theorem ev88(c:Ct)(s:Ste)(hfew:c.small=true)(hs:s.small):ev pg (.call (.fn 88 [] []) [c.v,s.v] [])=some { v:=num (stE c s),st:=⟨[],[]⟩ }:=by
 have h1:=ev44 c hfew
 have h2:=ev126 c s hs
 rw[qac,pg88]
 unfold stE
 generalize c.check=e at *
 by_cases he:e=0
 .subst he
  simp[ir88,h1,h2]
 .simp[ir88,h1,he]
theorem ev93(l:List Bool)(hl:l.length<=4096):ev pg (.call (.fn 93 [] []) [qcy l] [])=some { v:=.sl 0 0 1 0 l.length,st:=⟨[],[⟨0,.arr 1 (l.map qfi)⟩]⟩ }:=by
 rw[qac,pg93]
 cases l with
 | nil=>simp[ir93,qcr,qeo,qem]
 | cons x l =>
  have h47:(l.length+1)*1<=140737488355328:=by
   simp only[List.length_cons]at hl
   omega
  have h48:l.length+1<=140737488355328:=by omega
  simp[ir93,h47,h48,qcr,qeo,qem]
theorem ev98g(n:Nat)(hn2:n<=100000):ev pg (.call (.fn 98 [] []) [.nils,num n] [⟨0,.arr 0 []⟩])=some (if n=0 then { v:=.nils,st:=⟨[],[⟨0,.arr 0 []⟩]⟩ }else { v:=.sl 1 0 1 0 0,st:=⟨[],[⟨0,.arr 0 []⟩,⟨0,.arr 1 []⟩]⟩ }):=by
 have w1:=qab (n:=(n:Int)) (by omega) (by omega)
 have p1:¬((n:Int)<0):=by omega
 have w0:=qab (n:=0) (by omega) (by omega)
 have p3:n*8<=140737488355328:=by omega
 have p4:n<=140737488355328:=by omega
 rw[qac,pg98]
 rcases Nat.eq_zero_or_pos n with rfl | hn
 .simp[ir98,w0,qcr,qeo,qem]
 .have hn0:n≠0:=by omega
  rw[if_neg hn0]
  simp[ir98,w0,w1,p1,hn,p3,p4,qcr,qeo,qem]
  try omega
abbrev qji(L:List (List Int))(k:Nat):Nat:=(L.take k).flatten.length
theorem qwu{L:List (List Int)}{k:Nat}(hk:k<L.length):qji L (k+1)=qji L k+L[k].length:=by
 unfold qji
 rw[jK hk,jZ]
 simp
theorem q7u(L:List (List Int))(k:Nat):qji L k<=L.flatten.length:=by
 unfold qji
 have:L.flatten=(L.take k).flatten++(L.drop k).flatten:=by rw[<-jZ,List.take_append_drop]
 rw[this,jF]
 omega
abbrev zew(L:List (List Int)):V:=.imm (L.map fun l=>[qbx l])
def ziw(L:List (List Int))(k:Nat):Tm:=[some (zew L),none,some (.sl 0 0 0 0 0),some (num (qji L k))]++List.replicate 5 none++[some (zew L),some (num L.length),some (num k)]++List.replicate 24 none
theorem zuw(L:List (List Int))(hL:L.length<=4096)(hN:L.flatten.length<=100000){st:St}(h0:At (ziw L 0) [⟨0,.arr 0 []⟩] st):∃r,ev pg (.code (.going 1 L72_0) st)=some r/\qag (.exit 0) (ziw L L.length) [⟨0,.arr 0 []⟩] r:=by
 refine qcd L.length (ziw L) (fun _=>[⟨0,.arr 0 []⟩]) _ ?_ ?_ h0
 .intro k f hf hk
  have hk':(k:Int)<L.length:=by omega
  have wk:=qab (n:=(k:Int)+1) (by omega) (by omega)
  have hs:=qwu hk
  have hle:=q7u L (k+1)
  have w2:=qab (n:=(qji L k:Int)+(L[k].length:Int)) (by omega) (by omega)
  have w3:¬(qji L k:Int)+(L[k].length:Int)<0:=by omega
  unfold ziw
  rw[hs]
  generalize qji L k=n at *
  simp[L72_0,hk,hk',wk,w2,w3,hf.ne]
 .intro f hf
  unfold ziw
  generalize qji L L.length=n at *
  simp[L72_0,hf.ne]
def zvl(L:List (List Int))(k:Nat)(a:Nat×Nat):Tm:=[some (zew L),none,some (.sl 0 0 0 0 0),none,none,none,some (.sl 1 a.1 a.2 0 (qji L k))]++List.replicate 18 none++[some (zew L),some (num L.length),some (num k)]++List.replicate 8 none
abbrev zvt(X:H)(L:List (List Int))(k:Nat)(a:Nat×Nat):H:=⟨0,.arr 0 []⟩ :: ⟨a.1,.arr a.2 ((L.take k).flatten.map qdc)⟩ :: X
theorem zsx(X:H)(hX:X=[]\/X=[⟨0,.arr 0 []⟩])(L:List (List Int))(hL:L.length<=4096)(hN:L.flatten.length<=100000){st:St}(a0:Nat×Nat)(g0:a0.2=1\/(a0.2=0/\(0:Nat)=0))(h0:At (zvl L 0 a0) (zvt X L 0 a0) st):∃r,ev pg (.code (.going (2+X.length) L72_1) st)=some r/\∃a:Nat×Nat,(a.2=1\/(a.2=0/\L.length=0))/\qag (.exit 2) (zvl L L.length a) (zvt X L L.length a) r:=by
 refine qbn L.length (zvl L) (zvt X L) (fun k a=>a.2=1\/(a.2=0/\k=0)) _ ?_ ?_ a0 g0 h0
 .rintro k ⟨g,m⟩ f hf hk hG
  have hk':(k:Int)<L.length:=by omega
  have wk:=qab (n:=(k:Int)+1) (by omega) (by omega)
  have hs:=qwu hk
  have hle:=q7u L (k+1)
  have hfl:(L.take (k+1)).flatten=(L.take k).flatten++L[k]:=by rw[jK hk,jZ];simp
  have hb:(qji L k+L[k].length)*8<=140737488355328:=by omega
  have hb1:qji L k+L[k].length<=140737488355328:=by omega
  have hb2:(L.take k).flatten.length+L[k].length<=140737488355328:=hb1
  have hmm:m=1\/m=0:=hG.elim .inl fun h=>.inr h.1
  have hlen:(L.take k).flatten.length=qji L k:=rfl
  unfold zvl zvt
  rw[hs,hfl]
  generalize qji L k=n at *
  generalize (L.take k).flatten=W at *
  rcases hX with rfl | rfl<;>rcases hmm with rfl | rfl<;>simp[L72_1,hk,hk',wk,hb,hb1,hb2,hlen,hf.ne]
 .rintro⟨g,m⟩ f hf hG
  unfold zvl zvt
  generalize qji L L.length=n at *
  generalize (L.take L.length).flatten=W at *
  rcases hX with rfl | rfl<;>simp[L72_1,hf.ne]<;>exact⟨g,hG.elim (fun h=>.inl ⟨rfl,h⟩) fun h=>.inr ⟨⟨h.1,List.length_eq_zero_iff.1 h.2⟩,rfl⟩⟩
theorem ev72c(L:List (List Int))(hL:L.length<=4096)(hL0:L≠[])(hN:L.flatten.length<=100000):ev pg (.call (.fn 72 [] []) [zew L] [])=some { v:=.sl 0 0 1 0 L.flatten.length,st:=⟨[],[⟨0,.arr 1 (L.flatten.map qdc)⟩]⟩ }:=by
 have hla:=@zuw L hL hN
 have hlb:=fun X hX=>@zsx X hX L hL hN
 have hg:=ev98g L.flatten.length hN
 have hn:qji L L.length=L.flatten.length:=by unfold qji;rw[List.take_length]
 have h0:qji L 0=0:=by simp[qji]
 have ha0:∀st:St,At ([some (zew L),none,some (.sl 0 0 0 0 0),some (num 0)]++List.replicate 5 none++[some (zew L),some (num L.length),some (num 0)]++List.replicate 24 none) [⟨0,.arr 0 []⟩] st->At (ziw L 0) [⟨0,.arr 0 []⟩] st:=fun st h=>by
  unfold ziw
  rw[h0]
  exact h
 unfold zvt at hlb
 simp only[List.take_length,List.take_zero]at hlb
 unfold zvl at hlb
 simp only[hn,h0]at hlb
 have hle:∀f,fill f 0 (ziw L L.length)=fill f 0 ([some (zew L),none,some (.sl 0 0 0 0 0),some (num L.flatten.length)]++List.replicate 5 none++[some (zew L),some (num L.length),some (num L.length)]++List.replicate 24 none):=fun f=>by
  unfold ziw
  rw[hn]
 have hlen:(L.flatten.map qdc).length=L.flatten.length:=List.length_map ..
 generalize L.flatten.map qdc=W at *
 generalize L.flatten.length=N at *
 rw[qac,pg72]
 simp[ir72,qaf]
 generalize hr:ev pg (.code (.going _ L72_0) _)=o
 obtain⟨r,rfl,f,hf,rfl⟩:∃r,o=some r/\_:=by rw[<-hr];exact hla (ha0 _ (by simp))
 clear hr
 rw[hle]
 by_cases hz:N=0
 .rw[if_pos hz]at hg
  simp[hg,hf.ne,qaf]
  generalize hr:ev pg (.code (.going _ L72_1) _)=o
  obtain⟨r,rfl,⟨g,m⟩,hm,f,hf,rfl⟩:∃r,o=some r/\_:=by rw[<-hr];exact hlb [⟨0,.arr 0 []⟩] (.inr rfl) (0,0) (.inr ⟨rfl,trivial⟩) (by simp[hf.ne])
  obtain rfl:m=1:=hm.elim id fun h=>absurd (List.length_eq_zero_iff.1 h.2) hL0
  simp[qcr,qeo,qem,hlen]
 .rw[if_neg hz]at hg
  simp[hg,hf.ne,qaf]
  generalize hr:ev pg (.code (.going _ L72_1) _)=o
  obtain⟨r,rfl,⟨g,m⟩,hm,f,hf,rfl⟩:∃r,o=some r/\_:=by rw[<-hr];exact hlb [] (.inl rfl) (0,1) (.inl rfl) (by simp[hf.ne])
  obtain rfl:m=1:=hm.elim id fun h=>absurd (List.length_eq_zero_iff.1 h.2) hL0
  simp[qcr,qeo,qem,hlen]
theorem zhi{c:Ct}(hc:c.check=0)(hfew:c.small=true){x:Sg}(hx:x∈c.signals)(hk:x.kind≠1):x.off.zero=true:=by
 have hM:=qud hc hfew
 generalize hA:c.act.toNat=A at *
 have h2:ctE c A=0:=by
  unfold Ct.check at hc
  split at hc
  .cases hc
  .split at hc
   .cases hc
   .rw[hA]at hc;exact hc
 unfold ctE at h2
 split at h2
 .split at h2
  .rename_i hs
   obtain⟨i,hi,rfl⟩:=List.mem_iff_getElem.1 hx
   have h3:=qpo hs i (by omega) (by omega)
   unfold qsw at h3
   rw[jA hi]at h3
   simp only at h3
   unfold q3r at h3
   split at h3
   .split at h3
    .cases h3
    .split at h3
     .split at h3
      .rename_i h4;exact absurd h4.1 hk
      .split at h3
       .cases h3
       .split at h3
        .cases h3
        .split at h3
         .cases h3
         .rename_i h6
          cases hz:c.signals[i].off.zero with
          | true=>rfl
          | false=>exact absurd (.inl ⟨hk,.inl hz⟩) h6
     .rename_i h4;exact absurd h3 h4
   .rename_i h4;exact absurd h3 h4
  .rename_i h4;exact absurd h2 h4
 .rename_i h4;exact absurd h2 h4
theorem zib{x:Ex}(h:x.zero=true)(n:Int):x.err n=0:=by
 simp only[Ex.zero,jE,jW]at h
 obtain⟨⟨h1,h2⟩,h3⟩:=h
 have ha:x.args=[]:=by simpa using h3
 rw[q7i,ha,h1,h2]
 simp[qbm,q3f]
structure SgOk(N:Nat)(x:Sg):Prop where
 on:x.on.err N=0
 off:x.off.err N=0
 non:x.on.nodes<=256
 noff:x.off.nodes<=256
 zero:x.kind≠1->x.off.zero=true
theorem jah{c:Ct}(hc:c.check=0)(hfew:c.small=true){x:Sg}(hx:x∈c.signals):SgOk (qak c c.act.toNat) x:=by
 have hR:=qvn hc hfew
 obtain⟨_,g1,g2⟩:=(qgr hfew).2.2.2.2.2 x hx
 refine⟨hR.on x hx,?_,(qes g1).1,(qes g2).1,fun hk=>zhi hc hfew hx hk⟩
 rcases hR.off x hx with h | h
 .exact h
 .exact zib h _
structure Keep32(st:List V):Prop where
 nn:qdv st
 len:st.length=138
 t2:qat st 2=.bptr 0 0
 t3:qat st 3=.bptr 1 0
 t4:qat st 4=.bptr 6 0
 t5:qat st 5=.sl 16 0 0 0 0
 t6:qat st 6=.bptr 11 0
structure Keep32v(P:List (Int×Int))(v:Int)(gv mv nv:Nat)(st:List V):Prop where
 keep:Keep32 st
 t9:qat st 9=.sl 20 gv mv 0 nv
 t10:qat st 10=zfe P
 t11:qat st 11=num v
theorem Keep32.set{s:List V}(h:Keep32 s)(j:Nat)(x:V)(hx:x ≠ .nils)(hj:j∉[2,3,4,5,6]):Keep32 (qhc s j x):=by
 simp only[List.mem_cons,List.not_mem_nil,or_false,not_or]at hj
 obtain⟨h2,h3,h4,h5,h6⟩:=hj
 exact⟨qew h.nn hx,by rw[qnh,h.len],by rw[qay h2,h.t2],by rw[qay h3,h.t3],by rw[qay h4,h.t4],by rw[qay h5,h.t5],by rw[qay h6,h.t6]⟩
theorem Keep32v.set{P:List (Int×Int)}{v:Int}{gv mv nv:Nat}{s:List V}(h:Keep32v P v gv mv nv s)(j:Nat)(x:V)(hx:x ≠ .nils)(hj:j∉[2,3,4,5,6])(hj2:j∉[9,10,11]):Keep32v P v gv mv nv (qhc s j x):=by
 simp only[List.mem_cons,List.not_mem_nil,or_false,not_or]at hj2
 obtain⟨h9,h10,h11⟩:=hj2
 exact⟨h.keep.set j x hx hj,by rw[qay h9,h.t9],by rw[qay h10,h.t10],by rw[qay h11,h.t11]⟩
theorem Keep32v.next{P:List (Int×Int)}{v:Int}{gv mv nv:Nat}{s:List V}(h:Keep32v P v gv mv nv s)(x y:V)(hx:x ≠ .nils)(hy:y ≠ .nils)(v':Int):Keep32v P v' gv mv nv (qhc (qhc (qhc s 81 x) 82 y) 11 (num v')):=by
 have hk:=((h.keep.set 81 x hx (by decide)).set 82 y hy (by decide)).set 11 (num v') (by simp) (by decide)
 have hl:=h.keep.len
 exact⟨hk,by simp[h.t9],by simp[h.t10],by simp[hl]⟩
abbrev z5g(s:Ste):H:=[⟨0,.arr 1 (s.ends.map qdc)⟩,⟨0,.arr 1 (s.valves.map qfi)⟩,⟨0,.arr 1 (s.inputs.map qfi)⟩,⟨0,.arr 1 (s.values.map qfi)⟩,⟨0,.arr 1 (s.timers.map qdc)⟩]
abbrev zgz(s:Ste):V:=.agg [.sl 0 0 1 0 s.ends.length,.sl 1 0 1 0 s.valves.length,.sl 2 0 1 0 s.inputs.length,.sl 3 0 1 0 s.values.length,.sl 4 0 1 0 s.timers.length]
theorem ev106(s:Ste)(hs:s.small):ev pg (.call (.fn 106 [] []) [s.v] [])=some { v:=zgz s,st:=⟨[],z5g s⟩ }:=by
 obtain⟨h1,h2,h3,h4,h5⟩:=hs
 have g1:s.ends.length*8<=140737488355328:=by omega
 have g2:s.valves.length<=140737488355328:=by omega
 have g3:s.inputs.length<=140737488355328:=by omega
 have g4:s.values.length<=140737488355328:=by omega
 have g5:s.timers.length*8<=140737488355328:=by omega
 rw[qac,pg106]
 simp[qaa,exT,qae,ir106,g1,g2,g3,g4,g5,qcr,qeo,qks,qem]
abbrev o0:Ob:=⟨0,.arr 0 []⟩
abbrev q0o(b:Nat):List V:=[.sl b 0 0 0 0,.sl (b+1) 0 0 0 0,.sl (b+2) 0 0 0 0,.sl (b+3) 0 0 0 0,.sl (b+4) 0 0 0 0]
end Go.Proofs.YtlhciedghbmjjaaGreat
