/- Values of expressions, by the program. -/
import Derived.Test.YtddeacahiilikaaGreatRSa1
set_option linter.all false
namespace Go.Proofs.YtddeacahiilikaaGreat
open Go Go.Am Go.Proofs
set_option maxRecDepth 100000
mutual
def Ex.holds(vs:List Bool):Ex->Bool
 | .mk o i l=>if o=0 then i==1 else if o=1 then(vs[i.toNat]?).getD false else if o=2 then(qtr vs l).all (!·)else if o=3 then(qtr vs l).all id else(qtr vs l).any id
def qtr(vs:List Bool):List Ex->List Bool
 | []=>[]
 | x :: l=>x.holds vs :: qtr vs l
end
theorem qts(vs:List Bool):∀l:List Ex,qtr vs l=l.map (Ex.holds vs)
 | []=>rfl
 | x :: l=>by rw[qtr,qts vs l];rfl
theorem qvx(vs:List Bool)(x:Ex):x.holds vs=if x.op=0 then x.idx==1 else if x.op=1 then(vs[x.idx.toNat]?).getD false else if x.op=2 then(x.args.map (Ex.holds vs)).all (!·)else if x.op=3 then(x.args.map (Ex.holds vs)).all id else(x.args.map (Ex.holds vs)).any id:=by
 cases x;rw[Ex.holds,qts];rfl
abbrev sh5:List V:=[num 0,num 0,.nilfn,num 0,num 0,.nilfn,num 1,num 1,.fn 306 [] [.bptr 3 0],num 2,num 256,.fn 306 [] [.bptr 4 0],num 2,num 256,.fn 298 [] []]
abbrev B5(x:Ex)(vs:List Bool):H:=[⟨0,.box x.cells⟩,⟨0,.box [qdt vs]⟩,⟨0,.box sh5⟩,⟨0,.box [.bool false]⟩,⟨0,.box [.bool true]⟩]
theorem ev297(b:Bool)(h:H):ev pg (.call (.fn 297 [] []) [.bool b] h)=some { v:=.fn 306 [] [.bptr h.length 0],st:=⟨[],h++[⟨0,.box [.bool b]⟩]⟩ }:=by
 rw[qac,pg297]
 simp[ir297]
theorem ev275(x:Ex)(vs:List Bool):ev pg (.call (.fn 275 [] []) [] [⟨0,.box x.cells⟩,⟨0,.box [qdt vs]⟩])=some { v:=.agg sh5,st:=⟨[],B5 x vs⟩ }:=by
 have h1:=ev297 false
 have h2:=ev297 true
 rw[qac,pg275]
 simp[ir275,h1,h2]
theorem qzz{p:Ex->Bool}{l:List Ex}{k:Nat}(hk:k<l.length)(h:p l[k]=false):l.all p=false:=by
 rw[List.all_eq_false];exact⟨_,jH hk,by simp[h]⟩
theorem qvf{p:Ex->Bool}{l:List Ex}(h:∀j (hj:j<l.length),p l[j]=true):l.all p=true:=by
 rw[jP]
 intro x hx
 obtain⟨j,hj,rfl⟩:=List.getElem_of_mem hx
 exact h j hj
abbrev sla:List V:=[.fn 276 [] [.bptr 0 0,.bptr 1 0],.bptr 3 0,.undef,.bptr 5 0,.undef,.fn 276 [] [.bptr 0 0,.bptr 1 0],.undef,.undef,.undef,.undef]
abbrev Ma(x:Ex)(vs:List Bool)(p:Option X):H:=B5 x vs++[⟨0,.box [.bool false]⟩,⟨0,.loop sla [6] L306_0 L306_1 p⟩]
theorem z2t(x y:Ex)(vs:List Bool)(u:Bool):ev pg (.call (.yld 6) [.bool u] (Ma x vs none++[⟨0,.arr 0 []⟩,⟨0,.box y.cells⟩]))=some { v:=.bool (u==false),st:=⟨[],Ma x vs (if u=false then none else some .ret)++[⟨0,.arr 0 []⟩,⟨0,.box y.cells⟩]⟩ }:=by
 rw[qir]
 cases u<;>simp[qbz,L306_0,L306_1]
def q3z(x:Ex)(k:Nat):Tm:=[some (.yld 6),some (.bptr 0 0),some (.bptr 1 0),none,none,none,none,some (.imm (x.args.map Ex.row)),some (num x.args.length),some (num k)]++List.replicate 10 none
theorem zse(x:Ex)(vs:List Bool)(hx:x.nodes<=256)(ih:∀y∈x.args,ev pg (.call (.fn 236 [] []) [y.v,qdt vs] [])=some { v:=.bool (y.holds vs),st:=⟨[],[]⟩ }){st:St}(h0:At (q3z x 0) (Ma x vs none) st):∃r,ev pg (.code (.going 7 L276_0) st)=some r/\qmo x.args.length (fun k=>((x.args[k]?).map (Ex.holds vs)).getD false != false) (fun k=>qaj .ret (List.replicate 20 none) (Ma x vs (some .ret)++[⟨0,.arr 0 []⟩,⟨0,.box (((x.args[k]?).map Ex.cells).getD [])⟩])) (qaj (.exit 0) (List.replicate 20 none) (Ma x vs none)) r:=by
 have hfew:=qfb hx
 refine qcx _ _ (q3z x) (Ma x vs none) _ _ ?_ ?_ ?_ h0
 .intro k f hf hk hp
  have hk':(k:Int)<x.args.length:=by omega
  have wk:=qab (n:=(k:Int)+1) (by omega) (by omega)
  have hi:=ih _ (jH hk)
  have hh:x.args[k].holds vs=false:=by simpa[hk]using hp
  rw[hh]at hi
  have hy:=z2t x x.args[k] vs false
  simp at hy
  simp[q3z,L276_0,hk,hk',wk,hi,hy,hf.ne]
 .intro k f hf hk hp
  have hk':(k:Int)<x.args.length:=by omega
  have hi:=ih _ (jH hk)
  have hh:x.args[k].holds vs=(!false):=by simpa[hk]using hp
  rw[hh]at hi
  have hy:=z2t x x.args[k] vs (!false)
  simp at hy hi
  simp[q3z,L276_0,hk,hk',hi,hy,hf.ne]
 .intro f hf
  simp[q3z,L276_0,hf.ne]
theorem ev306a(x:Ex)(vs:List Bool)(hx:x.nodes<=256)(ih:∀y∈x.args,ev pg (.call (.fn 236 [] []) [y.v,qdt vs] [])=some { v:=.bool (y.holds vs),st:=⟨[],[]⟩ }):ev pg (.call (.fn 306 [] [.bptr 3 0]) [.fn 276 [] [.bptr 0 0,.bptr 1 0]] (B5 x vs))=some { v:=.bool (x.args.all fun y=>y.holds vs==false),st:=⟨[],B5 x vs⟩ }:=by
 have hl:=@zse x vs hx ih
 have h127:∃p,ev pg (.call (.fn 276 [] [.bptr 0 0,.bptr 1 0]) [.yld 6] (Ma x vs none))=some { v:=.tup [],st:=⟨[],Ma x vs p⟩ }/\((p=none/\(x.args.all fun y=>y.holds vs==false)=true)\/(p=some .ret/\(x.args.all fun y=>y.holds vs==false)=false)):=by
  rw[qac,pg276]
  simp[-List.all_eq_true,-List.all_eq_false,ir276,qaf]
  generalize hr:ev pg (.code (.going _ L276_0) _)=o
  obtain⟨r,rfl,hQ⟩:∃r,o=some r/\_:=by rw[<-hr];exact hl (by simp[q3z])
  rcases hQ with⟨k,hk,hp,-,f,hf,rfl⟩ | ⟨hp,f,hf,rfl⟩
  .refine⟨some .ret,?_,.inr ⟨rfl,qzz hk (by simpa[hk]using hp)⟩⟩
   simp[hk]
  .refine⟨none,?_,.inl ⟨rfl,qvf fun j hj=>by simpa[hj]using hp j hj⟩⟩
   simp
 obtain⟨p,h127,hp⟩:=h127
 generalize (x.args.all fun y=>y.holds vs==false)=B at *
 rw[qac,pg306]
 simp at h127
 rcases hp with⟨rfl,rfl⟩ | ⟨rfl,rfl⟩
 .simp[ir306,qgi,h127]
 .simp[ir306,qgi,h127]
abbrev slb:List V:=[.fn 276 [] [.bptr 0 0,.bptr 1 0],.bptr 4 0,.undef,.bptr 5 0,.undef,.fn 276 [] [.bptr 0 0,.bptr 1 0],.undef,.undef,.undef,.undef]
abbrev Mb(x:Ex)(vs:List Bool)(p:Option X):H:=B5 x vs++[⟨0,.box [.bool false]⟩,⟨0,.loop slb [6] L306_0 L306_1 p⟩]
theorem z2u(x y:Ex)(vs:List Bool)(u:Bool):ev pg (.call (.yld 6) [.bool u] (Mb x vs none++[⟨0,.arr 0 []⟩,⟨0,.box y.cells⟩]))=some { v:=.bool (u==true),st:=⟨[],Mb x vs (if u=true then none else some .ret)++[⟨0,.arr 0 []⟩,⟨0,.box y.cells⟩]⟩ }:=by
 rw[qir]
 cases u<;>simp[qbz,L306_0,L306_1]
def q4a(x:Ex)(k:Nat):Tm:=[some (.yld 6),some (.bptr 0 0),some (.bptr 1 0),none,none,none,none,some (.imm (x.args.map Ex.row)),some (num x.args.length),some (num k)]++List.replicate 10 none
theorem zsf(x:Ex)(vs:List Bool)(hx:x.nodes<=256)(ih:∀y∈x.args,ev pg (.call (.fn 236 [] []) [y.v,qdt vs] [])=some { v:=.bool (y.holds vs),st:=⟨[],[]⟩ }){st:St}(h0:At (q4a x 0) (Mb x vs none) st):∃r,ev pg (.code (.going 7 L276_0) st)=some r/\qmo x.args.length (fun k=>((x.args[k]?).map (Ex.holds vs)).getD true != true) (fun k=>qaj .ret (List.replicate 20 none) (Mb x vs (some .ret)++[⟨0,.arr 0 []⟩,⟨0,.box (((x.args[k]?).map Ex.cells).getD [])⟩])) (qaj (.exit 0) (List.replicate 20 none) (Mb x vs none)) r:=by
 have hfew:=qfb hx
 refine qcx _ _ (q4a x) (Mb x vs none) _ _ ?_ ?_ ?_ h0
 .intro k f hf hk hp
  have hk':(k:Int)<x.args.length:=by omega
  have wk:=qab (n:=(k:Int)+1) (by omega) (by omega)
  have hi:=ih _ (jH hk)
  have hh:x.args[k].holds vs=true:=by simpa[hk]using hp
  rw[hh]at hi
  have hy:=z2u x x.args[k] vs true
  simp at hy
  simp[q4a,L276_0,hk,hk',wk,hi,hy,hf.ne]
 .intro k f hf hk hp
  have hk':(k:Int)<x.args.length:=by omega
  have hi:=ih _ (jH hk)
  have hh:x.args[k].holds vs=(!true):=by simpa[hk]using hp
  rw[hh]at hi
  have hy:=z2u x x.args[k] vs (!true)
  simp at hy hi
  simp[q4a,L276_0,hk,hk',hi,hy,hf.ne]
 .intro f hf
  simp[q4a,L276_0,hf.ne]
theorem ev306b(x:Ex)(vs:List Bool)(hx:x.nodes<=256)(ih:∀y∈x.args,ev pg (.call (.fn 236 [] []) [y.v,qdt vs] [])=some { v:=.bool (y.holds vs),st:=⟨[],[]⟩ }):ev pg (.call (.fn 306 [] [.bptr 4 0]) [.fn 276 [] [.bptr 0 0,.bptr 1 0]] (B5 x vs))=some { v:=.bool (x.args.all fun y=>y.holds vs==true),st:=⟨[],B5 x vs⟩ }:=by
 have hl:=@zsf x vs hx ih
 have h127:∃p,ev pg (.call (.fn 276 [] [.bptr 0 0,.bptr 1 0]) [.yld 6] (Mb x vs none))=some { v:=.tup [],st:=⟨[],Mb x vs p⟩ }/\((p=none/\(x.args.all fun y=>y.holds vs==true)=true)\/(p=some .ret/\(x.args.all fun y=>y.holds vs==true)=false)):=by
  rw[qac,pg276]
  simp[-List.all_eq_true,-List.all_eq_false,ir276,qaf]
  generalize hr:ev pg (.code (.going _ L276_0) _)=o
  obtain⟨r,rfl,hQ⟩:∃r,o=some r/\_:=by rw[<-hr];exact hl (by simp[q4a])
  rcases hQ with⟨k,hk,hp,-,f,hf,rfl⟩ | ⟨hp,f,hf,rfl⟩
  .refine⟨some .ret,?_,.inr ⟨rfl,qzz hk (by simpa[hk]using hp)⟩⟩
   simp[hk]
  .refine⟨none,?_,.inl ⟨rfl,qvf fun j hj=>by simpa[hj]using hp j hj⟩⟩
   simp
 obtain⟨p,h127,hp⟩:=h127
 generalize (x.args.all fun y=>y.holds vs==true)=B at *
 rw[qac,pg306]
 simp at h127
 rcases hp with⟨rfl,rfl⟩ | ⟨rfl,rfl⟩
 .simp[ir306,qgi,h127]
 .simp[ir306,qgi,h127]
abbrev slc:List V:=[.fn 276 [] [.bptr 0 0,.bptr 1 0],.bptr 5 0,.undef,.bptr 6 0,.undef,.fn 276 [] [.bptr 0 0,.bptr 1 0],.undef,.undef,.undef,.undef]
abbrev Mc(x:Ex)(vs:List Bool)(p:Option X):H:=B5 x vs++[⟨0,.box [.bool false]⟩]++[⟨0,.box [.bool false]⟩,⟨0,.loop slc [6] L306_0 L306_1 p⟩]
theorem z2v(x y:Ex)(vs:List Bool)(u:Bool):ev pg (.call (.yld 7) [.bool u] (Mc x vs none++[⟨0,.arr 0 []⟩,⟨0,.box y.cells⟩]))=some { v:=.bool (u==false),st:=⟨[],Mc x vs (if u=false then none else some .ret)++[⟨0,.arr 0 []⟩,⟨0,.box y.cells⟩]⟩ }:=by
 rw[qir]
 cases u<;>simp[qbz,L306_0,L306_1]
def q4b(x:Ex)(k:Nat):Tm:=[some (.yld 7),some (.bptr 0 0),some (.bptr 1 0),none,none,none,none,some (.imm (x.args.map Ex.row)),some (num x.args.length),some (num k)]++List.replicate 10 none
theorem zsg(x:Ex)(vs:List Bool)(hx:x.nodes<=256)(ih:∀y∈x.args,ev pg (.call (.fn 236 [] []) [y.v,qdt vs] [])=some { v:=.bool (y.holds vs),st:=⟨[],[]⟩ }){st:St}(h0:At (q4b x 0) (Mc x vs none) st):∃r,ev pg (.code (.going 8 L276_0) st)=some r/\qmo x.args.length (fun k=>((x.args[k]?).map (Ex.holds vs)).getD false != false) (fun k=>qaj .ret (List.replicate 20 none) (Mc x vs (some .ret)++[⟨0,.arr 0 []⟩,⟨0,.box (((x.args[k]?).map Ex.cells).getD [])⟩])) (qaj (.exit 0) (List.replicate 20 none) (Mc x vs none)) r:=by
 have hfew:=qfb hx
 refine qcx _ _ (q4b x) (Mc x vs none) _ _ ?_ ?_ ?_ h0
 .intro k f hf hk hp
  have hk':(k:Int)<x.args.length:=by omega
  have wk:=qab (n:=(k:Int)+1) (by omega) (by omega)
  have hi:=ih _ (jH hk)
  have hh:x.args[k].holds vs=false:=by simpa[hk]using hp
  rw[hh]at hi
  have hy:=z2v x x.args[k] vs false
  simp at hy
  simp[q4b,L276_0,hk,hk',wk,hi,hy,hf.ne]
 .intro k f hf hk hp
  have hk':(k:Int)<x.args.length:=by omega
  have hi:=ih _ (jH hk)
  have hh:x.args[k].holds vs=(!false):=by simpa[hk]using hp
  rw[hh]at hi
  have hy:=z2v x x.args[k] vs (!false)
  simp at hy hi
  simp[q4b,L276_0,hk,hk',hi,hy,hf.ne]
 .intro f hf
  simp[q4b,L276_0,hf.ne]
theorem ev306c(x:Ex)(vs:List Bool)(hx:x.nodes<=256)(ih:∀y∈x.args,ev pg (.call (.fn 236 [] []) [y.v,qdt vs] [])=some { v:=.bool (y.holds vs),st:=⟨[],[]⟩ }):ev pg (.call (.fn 306 [] [.bptr 5 0]) [.fn 276 [] [.bptr 0 0,.bptr 1 0]] (B5 x vs++[⟨0,.box [.bool false]⟩]))=some { v:=.bool (x.args.all fun y=>y.holds vs==false),st:=⟨[],B5 x vs++[⟨0,.box [.bool false]⟩]⟩ }:=by
 have hl:=@zsg x vs hx ih
 have h127:∃p,ev pg (.call (.fn 276 [] [.bptr 0 0,.bptr 1 0]) [.yld 7] (Mc x vs none))=some { v:=.tup [],st:=⟨[],Mc x vs p⟩ }/\((p=none/\(x.args.all fun y=>y.holds vs==false)=true)\/(p=some .ret/\(x.args.all fun y=>y.holds vs==false)=false)):=by
  rw[qac,pg276]
  simp[-List.all_eq_true,-List.all_eq_false,ir276,qaf]
  generalize hr:ev pg (.code (.going _ L276_0) _)=o
  obtain⟨r,rfl,hQ⟩:∃r,o=some r/\_:=by rw[<-hr];exact hl (by simp[q4b])
  rcases hQ with⟨k,hk,hp,-,f,hf,rfl⟩ | ⟨hp,f,hf,rfl⟩
  .refine⟨some .ret,?_,.inr ⟨rfl,qzz hk (by simpa[hk]using hp)⟩⟩
   simp[hk]
  .refine⟨none,?_,.inl ⟨rfl,qvf fun j hj=>by simpa[hj]using hp j hj⟩⟩
   simp
 obtain⟨p,h127,hp⟩:=h127
 generalize (x.args.all fun y=>y.holds vs==false)=B at *
 rw[qac,pg306]
 simp at h127
 rcases hp with⟨rfl,rfl⟩ | ⟨rfl,rfl⟩
 .simp[ir306,qgi,h127]
 .simp[ir306,qgi,h127]
theorem ev298(x:Ex)(vs:List Bool)(hx:x.nodes<=256)(ih:∀y∈x.args,ev pg (.call (.fn 236 [] []) [y.v,qdt vs] [])=some { v:=.bool (y.holds vs),st:=⟨[],[]⟩ }):ev pg (.call (.fn 298 [] []) [.fn 276 [] [.bptr 0 0,.bptr 1 0]] (B5 x vs))=some { v:=.bool (!(x.args.all fun y=>y.holds vs==false)),st:=⟨[],B5 x vs⟩ }:=by
 have h1:=ev297 false (B5 x vs)
 have h2:=ev306c x vs hx ih
 generalize (x.args.all fun y=>y.holds vs==false)=B at *
 rw[qac,pg298]
 simp at h1 h2
 simp[ir298,h1,h2]
theorem ev236(vs:List Bool):∀x:Ex,x.nodes<=256->x.err vs.length=0->ev pg (.call (.fn 236 [] []) [x.v,qdt vs] [])=some { v:=.bool (x.holds vs),st:=⟨[],[]⟩ }:=by
 refine Ex.ind fun x ih hx he=>?_
 obtain⟨hn,hargs⟩:=qmv he
 have ih':∀y∈x.args,ev pg (.call (.fn 236 [] []) [y.v,qdt vs] [])=some { v:=.bool (y.holds vs),st:=⟨[],[]⟩ }:=fun y hy=>ih y hy (by have:=qex hx hy;omega) (hargs y hy)
 have hop:x.op=0\/x.op=1\/x.op=2\/x.op=3\/x.op=4:=by
  unfold qbg at hn
  by_cases h:x.op<0\/5<=x.op
  .rw[if_pos h]at hn;omega
  .omega
 have qyb:=ev275 x vs
 have a:=ev306a x vs hx ih'
 have b:=ev306b x vs hx ih'
 have d:=ev298 x vs hx ih'
 have ea:(x.args.map (Ex.holds vs)).all (!·)=x.args.all fun y=>y.holds vs==false:=by
  rw[List.all_map];congr 1;funext y;cases h:y.holds vs<;>simp[h]
 have eb:(x.args.map (Ex.holds vs)).all id=x.args.all fun y=>y.holds vs==true:=by
  rw[List.all_map];congr 1;funext y;cases h:y.holds vs<;>simp[h]
 have ed:(x.args.map (Ex.holds vs)).any id=!(x.args.all fun y=>y.holds vs==false):=by
  rw[List.any_map,List.not_all_eq_any_not];congr 1;funext y;cases h:y.holds vs<;>simp[h]
 rw[qvx,ea,eb,ed]
 generalize (x.args.all fun y=>y.holds vs==false)=B1 at *
 generalize (x.args.all fun y=>y.holds vs==true)=B2 at *
 rw[qac,pg236]
 rcases hop with h | h | h | h | h
 .simp[ir236,h]
 .obtain⟨hi0,hi1⟩:=qqv hn h
  have hin:x.idx.toNat<vs.length:=by omega
  simp[ir236,h,hi0,hin]
 .simp[B5,Ex.cells,h]at qyb a
  simp[qaa,exT,qae,ir236,h,qyb,a]
 .simp[B5,Ex.cells,h]at qyb b
  simp[qaa,exT,qae,ir236,h,qyb,b]
 .simp[B5,Ex.cells,h]at qyb d
  simp[qaa,exT,qae,ir236,h,qyb,d]
theorem ev192(x:Ex)(vs:List Bool)(hx:x.light=true)(hv:vs.length<=256)(he:x.check vs.length=0):ev pg (.call (.fn 192 [] []) [x.v,qdt vs] [])=some { v:=.tup [.bool (x.holds vs),num 0],st:=⟨[],[]⟩ }:=by
 have h111:=ev231 x vs.length hx
 have he':x.err vs.length=0:=by
  unfold Ex.check at he
  rw[if_neg (by omega),if_pos hx]at he
  exact he
 have h112:=ev236 vs x (qec hx).1 he'
 rw[he]at h111
 rw[qac,pg192]
 simp[ir192,h111,h112]
end Go.Proofs.YtddeacahiilikaaGreat
