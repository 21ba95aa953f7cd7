/- Values of expressions, by the program. -/
import Derived.Test.YtbepbclaoohngaaGreatVSa1
set_option linter.all false
namespace Go.Proofs.YtbepbclaoohngaaGreat
open Go Go.Am Go.Proofs
set_option maxRecDepth 100000
mutual
def Ex.holds(vs:List Bool):Ex->Bool
 | .mk o i l=>if o=0 then i==1 else if o=1 then(vs[i.toNat]?).getD false else if o=2 then(qys vs l).all (!·)else if o=3 then(qys vs l).all id else(qys vs l).any id
def qys(vs:List Bool):List Ex->List Bool
 | []=>[]
 | x :: l=>x.holds vs :: qys vs l
end
theorem qyt(vs:List Bool):∀l:List Ex,qys vs l=l.map (Ex.holds vs)
 | []=>rfl
 | x :: l=>by rw[qys,qyt vs l];rfl
theorem qnn(vs:List Bool)(x:Ex):x.holds vs=if x.op=0 then x.idx==1 else if x.op=1 then(vs[x.idx.toNat]?).getD false else if x.op=2 then(x.args.map (Ex.holds vs)).all (!·)else if x.op=3 then(x.args.map (Ex.holds vs)).all id else(x.args.map (Ex.holds vs)).any id:=by
 cases x;rw[Ex.holds,qyt];rfl
abbrev sh5:List V:=[num 0,num 0,.nilfn,num 0,num 0,.nilfn,num 1,num 1,.fn 302 [] [.bptr 3 0],num 2,num 256,.fn 302 [] [.bptr 4 0],num 2,num 256,.fn 295 [] []]
abbrev B5(x:Ex)(vs:List Bool):H:=[⟨0,.box x.cells⟩,⟨0,.box [qdw vs]⟩,⟨0,.box sh5⟩,⟨0,.box [.bool false]⟩,⟨0,.box [.bool true]⟩]
theorem ev294(b:Bool)(h:H):ev pg (.call (.fn 294 [] []) [.bool b] h)=some { v:=.fn 302 [] [.bptr h.length 0],st:=⟨[],h++[⟨0,.box [.bool b]⟩]⟩ }:=by
 rw[qaa,pg294]
 simp[ir294]
theorem ev280(x:Ex)(vs:List Bool):ev pg (.call (.fn 280 [] []) [] [⟨0,.box x.cells⟩,⟨0,.box [qdw vs]⟩])=some { v:=.agg sh5,st:=⟨[],B5 x vs⟩ }:=by
 have h1:=ev294 false
 have h2:=ev294 true
 rw[qaa,pg280]
 simp[ir280,h1,h2]
theorem q6j{p:Ex->Bool}{l:List Ex}{k:Nat}(hk:k<l.length)(h:p l[k]=false):l.all p=false:=by
 rw[List.all_eq_false];exact⟨_,jH hk,by simp[h]⟩
theorem q0n{p:Ex->Bool}{l:List Ex}(h:∀j (hj:j<l.length),p l[j]=true):l.all p=true:=by
 rw[jP]
 intro x hx
 obtain⟨j,hj,rfl⟩:=List.getElem_of_mem hx
 exact h j hj
abbrev sla:List V:=[.fn 281 [] [.bptr 0 0,.bptr 1 0],.bptr 3 0,.undef,.bptr 5 0,.undef,.fn 281 [] [.bptr 0 0,.bptr 1 0],.undef,.undef,.undef,.undef]
abbrev Ma(x:Ex)(vs:List Bool)(p:Option X):H:=B5 x vs++[⟨0,.box [.bool false]⟩,⟨0,.loop sla [6] L302_0 L302_1 p⟩]
theorem jff(x y:Ex)(vs:List Bool)(u:Bool):ev pg (.call (.yld 6) [.bool u] (Ma x vs none++[⟨0,.arr 0 []⟩,⟨0,.box y.cells⟩]))=some { v:=.bool (u==false),st:=⟨[],Ma x vs (if u=false then none else some .ret)++[⟨0,.arr 0 []⟩,⟨0,.box y.cells⟩]⟩ }:=by
 rw[qhx]
 cases u<;>simp[qch,L302_0,L302_1]
def zbe(x:Ex)(k:Nat):Tm:=[some (.yld 6),bN 0,bN 1,none,none,none,none,some (.imm (x.args.map Ex.row)),some (num x.args.length),nN k]++zN 10
theorem zzr(x:Ex)(vs:List Bool)(hx:x.nodes<=256)(ih:∀y∈x.args,ev pg (.call (.fn 254 [] []) [y.v,qdw vs] [])=some { v:=.bool (y.holds vs),st:=⟨[],[]⟩ }){st:St}(h0:At (zbe x 0) (Ma x vs none) st):∃r,ev pg (.code (.going 7 L281_0) st)=some r/\qkt x.args.length (fun k=>((x.args[k]?).map (Ex.holds vs)).getD false != false) (fun k=>qaq .ret (List.replicate 20 none) (Ma x vs (some .ret)++[⟨0,.arr 0 []⟩,⟨0,.box (((x.args[k]?).map Ex.cells).getD [])⟩])) (qaq (.exit 0) (List.replicate 20 none) (Ma x vs none)) r:=by
 have hfew:=qfi hx
 refine qby _ _ (zbe x) (Ma x vs none) _ _ ?_ ?_ ?_ h0
 .intro k f hf hk hp
  have hk':(k:Int)<x.args.length:=by omega
  have wk:=qbb (k:=k) (by omega)
  have hi:=ih _ (jH hk)
  have hh:x.args[k].holds vs=false:=by simpa[hk]using hp
  rw[hh]at hi
  have hy:=jff x x.args[k] vs false
  simp at hy
  simp[zbe,L281_0,hk,hk',wk,hi,hy,hf.ne]
 .intro k f hf hk hp
  have hk':(k:Int)<x.args.length:=by omega
  have hi:=ih _ (jH hk)
  have hh:x.args[k].holds vs=(!false):=by simpa[hk]using hp
  rw[hh]at hi
  have hy:=jff x x.args[k] vs (!false)
  simp at hy hi
  simp[zbe,L281_0,hk,hk',hi,hy,hf.ne]
 .intro f hf
  simp[zbe,L281_0,hf.ne]
theorem ev302a(x:Ex)(vs:List Bool)(hx:x.nodes<=256)(ih:∀y∈x.args,ev pg (.call (.fn 254 [] []) [y.v,qdw vs] [])=some { v:=.bool (y.holds vs),st:=⟨[],[]⟩ }):ev pg (.call (.fn 302 [] [.bptr 3 0]) [.fn 281 [] [.bptr 0 0,.bptr 1 0]] (B5 x vs))=some { v:=.bool (x.args.all fun y=>y.holds vs==false),st:=⟨[],B5 x vs⟩ }:=by
 have hl:=@zzr x vs hx ih
 have h127:∃p,ev pg (.call (.fn 281 [] [.bptr 0 0,.bptr 1 0]) [.yld 6] (Ma x vs none))=some { v:=.tup [],st:=⟨[],Ma x vs p⟩ }/\((p=none/\(x.args.all fun y=>y.holds vs==false)=true)\/(p=some .ret/\(x.args.all fun y=>y.holds vs==false)=false)):=by
  rw[qaa,pg281]
  simp[-List.all_eq_true,-List.all_eq_false,ir281,qah]
  generalize hr:ev pg (.code (.going _ L281_0) _)=o
  obtain⟨r,rfl,hQ⟩:∃r,o=some r/\_:=by rw[<-hr];exact hl (by simp[zbe])
  rcases hQ with⟨k,hk,hp,-,f,hf,rfl⟩ | ⟨hp,f,hf,rfl⟩
  .refine⟨some .ret,?_,.inr ⟨rfl,q6j hk (by simpa[hk]using hp)⟩⟩
   simp[hk]
  .refine⟨none,?_,.inl ⟨rfl,q0n fun j hj=>by simpa[hj]using hp j hj⟩⟩
   simp
 obtain⟨p,h127,hp⟩:=h127
 generalize (x.args.all fun y=>y.holds vs==false)=B at *
 rw[qaa,pg302]
 simp at h127
 rcases hp with⟨rfl,rfl⟩ | ⟨rfl,rfl⟩
 .simp[ir302,qgf,h127]
 .simp[ir302,qgf,h127]
abbrev slb:List V:=[.fn 281 [] [.bptr 0 0,.bptr 1 0],.bptr 4 0,.undef,.bptr 5 0,.undef,.fn 281 [] [.bptr 0 0,.bptr 1 0],.undef,.undef,.undef,.undef]
abbrev Mb(x:Ex)(vs:List Bool)(p:Option X):H:=B5 x vs++[⟨0,.box [.bool false]⟩,⟨0,.loop slb [6] L302_0 L302_1 p⟩]
theorem jfg(x y:Ex)(vs:List Bool)(u:Bool):ev pg (.call (.yld 6) [.bool u] (Mb x vs none++[⟨0,.arr 0 []⟩,⟨0,.box y.cells⟩]))=some { v:=.bool (u==true),st:=⟨[],Mb x vs (if u=true then none else some .ret)++[⟨0,.arr 0 []⟩,⟨0,.box y.cells⟩]⟩ }:=by
 rw[qhx]
 cases u<;>simp[qch,L302_0,L302_1]
def zbf(x:Ex)(k:Nat):Tm:=[some (.yld 6),bN 0,bN 1,none,none,none,none,some (.imm (x.args.map Ex.row)),some (num x.args.length),nN k]++zN 10
theorem zzs(x:Ex)(vs:List Bool)(hx:x.nodes<=256)(ih:∀y∈x.args,ev pg (.call (.fn 254 [] []) [y.v,qdw vs] [])=some { v:=.bool (y.holds vs),st:=⟨[],[]⟩ }){st:St}(h0:At (zbf x 0) (Mb x vs none) st):∃r,ev pg (.code (.going 7 L281_0) st)=some r/\qkt x.args.length (fun k=>((x.args[k]?).map (Ex.holds vs)).getD true != true) (fun k=>qaq .ret (List.replicate 20 none) (Mb x vs (some .ret)++[⟨0,.arr 0 []⟩,⟨0,.box (((x.args[k]?).map Ex.cells).getD [])⟩])) (qaq (.exit 0) (List.replicate 20 none) (Mb x vs none)) r:=by
 have hfew:=qfi hx
 refine qby _ _ (zbf x) (Mb x vs none) _ _ ?_ ?_ ?_ h0
 .intro k f hf hk hp
  have hk':(k:Int)<x.args.length:=by omega
  have wk:=qbb (k:=k) (by omega)
  have hi:=ih _ (jH hk)
  have hh:x.args[k].holds vs=true:=by simpa[hk]using hp
  rw[hh]at hi
  have hy:=jfg x x.args[k] vs true
  simp at hy
  simp[zbf,L281_0,hk,hk',wk,hi,hy,hf.ne]
 .intro k f hf hk hp
  have hk':(k:Int)<x.args.length:=by omega
  have hi:=ih _ (jH hk)
  have hh:x.args[k].holds vs=(!true):=by simpa[hk]using hp
  rw[hh]at hi
  have hy:=jfg x x.args[k] vs (!true)
  simp at hy hi
  simp[zbf,L281_0,hk,hk',hi,hy,hf.ne]
 .intro f hf
  simp[zbf,L281_0,hf.ne]
theorem ev302b(x:Ex)(vs:List Bool)(hx:x.nodes<=256)(ih:∀y∈x.args,ev pg (.call (.fn 254 [] []) [y.v,qdw vs] [])=some { v:=.bool (y.holds vs),st:=⟨[],[]⟩ }):ev pg (.call (.fn 302 [] [.bptr 4 0]) [.fn 281 [] [.bptr 0 0,.bptr 1 0]] (B5 x vs))=some { v:=.bool (x.args.all fun y=>y.holds vs==true),st:=⟨[],B5 x vs⟩ }:=by
 have hl:=@zzs x vs hx ih
 have h127:∃p,ev pg (.call (.fn 281 [] [.bptr 0 0,.bptr 1 0]) [.yld 6] (Mb x vs none))=some { v:=.tup [],st:=⟨[],Mb x vs p⟩ }/\((p=none/\(x.args.all fun y=>y.holds vs==true)=true)\/(p=some .ret/\(x.args.all fun y=>y.holds vs==true)=false)):=by
  rw[qaa,pg281]
  simp[-List.all_eq_true,-List.all_eq_false,ir281,qah]
  generalize hr:ev pg (.code (.going _ L281_0) _)=o
  obtain⟨r,rfl,hQ⟩:∃r,o=some r/\_:=by rw[<-hr];exact hl (by simp[zbf])
  rcases hQ with⟨k,hk,hp,-,f,hf,rfl⟩ | ⟨hp,f,hf,rfl⟩
  .refine⟨some .ret,?_,.inr ⟨rfl,q6j hk (by simpa[hk]using hp)⟩⟩
   simp[hk]
  .refine⟨none,?_,.inl ⟨rfl,q0n fun j hj=>by simpa[hj]using hp j hj⟩⟩
   simp
 obtain⟨p,h127,hp⟩:=h127
 generalize (x.args.all fun y=>y.holds vs==true)=B at *
 rw[qaa,pg302]
 simp at h127
 rcases hp with⟨rfl,rfl⟩ | ⟨rfl,rfl⟩
 .simp[ir302,qgf,h127]
 .simp[ir302,qgf,h127]
abbrev slc:List V:=[.fn 281 [] [.bptr 0 0,.bptr 1 0],.bptr 5 0,.undef,.bptr 6 0,.undef,.fn 281 [] [.bptr 0 0,.bptr 1 0],.undef,.undef,.undef,.undef]
abbrev Mc(x:Ex)(vs:List Bool)(p:Option X):H:=B5 x vs++[⟨0,.box [.bool false]⟩]++[⟨0,.box [.bool false]⟩,⟨0,.loop slc [6] L302_0 L302_1 p⟩]
theorem jfh(x y:Ex)(vs:List Bool)(u:Bool):ev pg (.call (.yld 7) [.bool u] (Mc x vs none++[⟨0,.arr 0 []⟩,⟨0,.box y.cells⟩]))=some { v:=.bool (u==false),st:=⟨[],Mc x vs (if u=false then none else some .ret)++[⟨0,.arr 0 []⟩,⟨0,.box y.cells⟩]⟩ }:=by
 rw[qhx]
 cases u<;>simp[qch,L302_0,L302_1]
def zbg(x:Ex)(k:Nat):Tm:=[some (.yld 7),bN 0,bN 1,none,none,none,none,some (.imm (x.args.map Ex.row)),some (num x.args.length),nN k]++zN 10
theorem zzt(x:Ex)(vs:List Bool)(hx:x.nodes<=256)(ih:∀y∈x.args,ev pg (.call (.fn 254 [] []) [y.v,qdw vs] [])=some { v:=.bool (y.holds vs),st:=⟨[],[]⟩ }){st:St}(h0:At (zbg x 0) (Mc x vs none) st):∃r,ev pg (.code (.going 8 L281_0) st)=some r/\qkt x.args.length (fun k=>((x.args[k]?).map (Ex.holds vs)).getD false != false) (fun k=>qaq .ret (List.replicate 20 none) (Mc x vs (some .ret)++[⟨0,.arr 0 []⟩,⟨0,.box (((x.args[k]?).map Ex.cells).getD [])⟩])) (qaq (.exit 0) (List.replicate 20 none) (Mc x vs none)) r:=by
 have hfew:=qfi hx
 refine qby _ _ (zbg x) (Mc x vs none) _ _ ?_ ?_ ?_ h0
 .intro k f hf hk hp
  have hk':(k:Int)<x.args.length:=by omega
  have wk:=qbb (k:=k) (by omega)
  have hi:=ih _ (jH hk)
  have hh:x.args[k].holds vs=false:=by simpa[hk]using hp
  rw[hh]at hi
  have hy:=jfh x x.args[k] vs false
  simp at hy
  simp[zbg,L281_0,hk,hk',wk,hi,hy,hf.ne]
 .intro k f hf hk hp
  have hk':(k:Int)<x.args.length:=by omega
  have hi:=ih _ (jH hk)
  have hh:x.args[k].holds vs=(!false):=by simpa[hk]using hp
  rw[hh]at hi
  have hy:=jfh x x.args[k] vs (!false)
  simp at hy hi
  simp[zbg,L281_0,hk,hk',hi,hy,hf.ne]
 .intro f hf
  simp[zbg,L281_0,hf.ne]
theorem ev302c(x:Ex)(vs:List Bool)(hx:x.nodes<=256)(ih:∀y∈x.args,ev pg (.call (.fn 254 [] []) [y.v,qdw vs] [])=some { v:=.bool (y.holds vs),st:=⟨[],[]⟩ }):ev pg (.call (.fn 302 [] [.bptr 5 0]) [.fn 281 [] [.bptr 0 0,.bptr 1 0]] (B5 x vs++[⟨0,.box [.bool false]⟩]))=some { v:=.bool (x.args.all fun y=>y.holds vs==false),st:=⟨[],B5 x vs++[⟨0,.box [.bool false]⟩]⟩ }:=by
 have hl:=@zzt x vs hx ih
 have h127:∃p,ev pg (.call (.fn 281 [] [.bptr 0 0,.bptr 1 0]) [.yld 7] (Mc x vs none))=some { v:=.tup [],st:=⟨[],Mc x vs p⟩ }/\((p=none/\(x.args.all fun y=>y.holds vs==false)=true)\/(p=some .ret/\(x.args.all fun y=>y.holds vs==false)=false)):=by
  rw[qaa,pg281]
  simp[-List.all_eq_true,-List.all_eq_false,ir281,qah]
  generalize hr:ev pg (.code (.going _ L281_0) _)=o
  obtain⟨r,rfl,hQ⟩:∃r,o=some r/\_:=by rw[<-hr];exact hl (by simp[zbg])
  rcases hQ with⟨k,hk,hp,-,f,hf,rfl⟩ | ⟨hp,f,hf,rfl⟩
  .refine⟨some .ret,?_,.inr ⟨rfl,q6j hk (by simpa[hk]using hp)⟩⟩
   simp[hk]
  .refine⟨none,?_,.inl ⟨rfl,q0n fun j hj=>by simpa[hj]using hp j hj⟩⟩
   simp
 obtain⟨p,h127,hp⟩:=h127
 generalize (x.args.all fun y=>y.holds vs==false)=B at *
 rw[qaa,pg302]
 simp at h127
 rcases hp with⟨rfl,rfl⟩ | ⟨rfl,rfl⟩
 .simp[ir302,qgf,h127]
 .simp[ir302,qgf,h127]
theorem ev295(x:Ex)(vs:List Bool)(hx:x.nodes<=256)(ih:∀y∈x.args,ev pg (.call (.fn 254 [] []) [y.v,qdw vs] [])=some { v:=.bool (y.holds vs),st:=⟨[],[]⟩ }):ev pg (.call (.fn 295 [] []) [.fn 281 [] [.bptr 0 0,.bptr 1 0]] (B5 x vs))=some { v:=.bool (!(x.args.all fun y=>y.holds vs==false)),st:=⟨[],B5 x vs⟩ }:=by
 have h1:=ev294 false (B5 x vs)
 have h2:=ev302c x vs hx ih
 generalize (x.args.all fun y=>y.holds vs==false)=B at *
 rw[qaa,pg295]
 simp at h1 h2
 simp[ir295,h1,h2]
theorem ev254(vs:List Bool):∀x:Ex,x.nodes<=256->x.err vs.length=0->ev pg (.call (.fn 254 [] []) [x.v,qdw vs] [])=some { v:=.bool (x.holds vs),st:=⟨[],[]⟩ }:=by
 refine Ex.ind fun x ih hx he=>?_
 obtain⟨hn,hargs⟩:=qhi he
 have ih':∀y∈x.args,ev pg (.call (.fn 254 [] []) [y.v,qdw vs] [])=some { v:=.bool (y.holds vs),st:=⟨[],[]⟩ }:=fun y hy=>ih y hy (by have:=qev hx hy;omega) (hargs y hy)
 have hop:x.op=0\/x.op=1\/x.op=2\/x.op=3\/x.op=4:=by
  unfold qbq at hn
  by_cases h:x.op<0\/5<=x.op
  .rw[if_pos h]at hn;omega
  .omega
 have q4a:=ev280 x vs
 have a:=ev302a x vs hx ih'
 have b:=ev302b x vs hx ih'
 have d:=ev295 x vs hx ih'
 have ea:(x.args.map (Ex.holds vs)).all (!·)=x.args.all fun y=>y.holds vs==false:=by
  rw[List.all_map];congr 1;funext y;cases h:y.holds vs<;>simp[h]
 have eb:(x.args.map (Ex.holds vs)).all id=x.args.all fun y=>y.holds vs==true:=by
  rw[List.all_map];congr 1;funext y;cases h:y.holds vs<;>simp[h]
 have ed:(x.args.map (Ex.holds vs)).any id=!(x.args.all fun y=>y.holds vs==false):=by
  rw[List.any_map,List.not_all_eq_any_not];congr 1;funext y;cases h:y.holds vs<;>simp[h]
 rw[qnn,ea,eb,ed]
 generalize (x.args.all fun y=>y.holds vs==false)=B1 at *
 generalize (x.args.all fun y=>y.holds vs==true)=B2 at *
 rw[qaa,pg254]
 rcases hop with h | h | h | h | h
 .simp[ir254,h]
 .obtain⟨hi0,hi1⟩:=qjo hn h
  have hin:x.idx.toNat<vs.length:=by omega
  simp[ir254,h,hi0,hin]
 .simp[B5,Ex.cells,h]at q4a a
  simp[qab,exT,qal,ir254,h,q4a,a]
 .simp[B5,Ex.cells,h]at q4a b
  simp[qab,exT,qal,ir254,h,q4a,b]
 .simp[B5,Ex.cells,h]at q4a d
  simp[qab,exT,qal,ir254,h,q4a,d]
theorem ev216(x:Ex)(vs:List Bool)(hx:x.light=true)(hv:vs.length<=256)(he:x.check vs.length=0):ev pg (.call (.fn 216 [] []) [x.v,qdw vs] [])=some { v:=.tup [.bool (x.holds vs),num 0],st:=⟨[],[]⟩ }:=by
 have h111:=ev249 x vs.length hx
 have he':x.err vs.length=0:=by
  unfold Ex.check at he
  rw[if_neg (by omega),if_pos hx]at he
  exact he
 have h112:=ev254 vs x (qdr hx).1 he'
 rw[he]at h111
 rw[qaa,pg216]
 simp[ir216,h111,h112]
end Go.Proofs.YtbepbclaoohngaaGreat
