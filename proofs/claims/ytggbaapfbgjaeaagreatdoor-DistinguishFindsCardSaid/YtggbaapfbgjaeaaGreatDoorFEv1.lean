/- Values of. -/
import Derived.Test.YtggbaapfbgjaeaaGreatDoorFSa1
set_option linter.all false
namespace Go.Proofs.YtggbaapfbgjaeaaGreatDoor
open Go Go.Am Go.Proofs
set_option maxRecDepth 100000
mutual
def Ex.holds(vs:List Bool):Ex->Bool
 | .mk o i l=>if o=0 then i==1 else if o=1 then(vs[i.toNat]?).getD false else if o=2 then(qzu vs l).all (!·)else if o=3 then(qzu vs l).all id else(qzu vs l).any id
def qzu(vs:List Bool):List Ex->List Bool
 | []=>[]
 | x :: l=>x.holds vs :: qzu vs l
end
theorem qzv(vs:List Bool):∀l:List Ex,qzu vs l=l.map (Ex.holds vs)
 | []=>rfl
 | x :: l=>by rw[qzu,qzv vs l];rfl
theorem qom(vs:List Bool)(x:Ex):x.holds vs=if x.op=0 then x.idx==1 else if x.op=1 then(vs[x.idx.toNat]?).getD false else if x.op=2 then(x.args.map (Ex.holds vs)).all (!·)else if x.op=3 then(x.args.map (Ex.holds vs)).all id else(x.args.map (Ex.holds vs)).any id:=by cases x;rw[Ex.holds,qzv];rfl
abbrev sh5:List V:=[num 0,num 0,.nilfn,num 0,num 0,.nilfn,num 1,num 1,.fn 267 [] [.bptr 3 0],num 2,num 256,.fn 267 [] [.bptr 4 0],num 2,num 256,.fn 251 [] []]
abbrev B5(x:Ex)(vs:List Bool):H:=[⟨0,.box x.cells⟩,⟨0,.box [qdc vs]⟩,⟨0,.box sh5⟩,⟨0,.box [.bool false]⟩,⟨0,.box [.bool true]⟩]
theorem ev250(b:Bool)(h:H):ev pg (.call (fnq 250) [.bool b] h)=some { v:=.fn 267 [] [.bptr h.length 0],st:=⟨[],h++[⟨0,.box [.bool b]⟩]⟩ }:=by rw[qaa,pg250.1];simp[ir250]
theorem ev231(x:Ex)(vs:List Bool):ev pg (.call (fnq 231) [] [⟨0,.box x.cells⟩,⟨0,.box [qdc vs]⟩])=some { v:=.agg sh5,st:=⟨[],B5 x vs⟩ }:=by have h1:=ev250 false;have h2:=ev250 true;rw[qaa,pg231.1];simp[ir231,h1,h2]
theorem q7h{p:Ex->Bool}{l:List Ex}{k:Nat}(hk:k<l.length)(h:p l[k]=false):l.all p=false:=by rw[List.all_eq_false];exact⟨_,jH hk,by simp[h]⟩
theorem q1o{p:Ex->Bool}{l:List Ex}(h:∀j (hj:j<l.length),p l[j]=true):l.all p=true:=by rw[jP];intro x hx;obtain⟨j,hj,rfl⟩:=List.getElem_of_mem hx;exact h j hj
abbrev sla:List V:=[.fn 233 [] [.bptr 0 0,.bptr 1 0],.bptr 3 0,.undef,.bptr 5 0,.undef,.fn 233 [] [.bptr 0 0,.bptr 1 0],.undef,.undef,.undef,.undef]
abbrev Ma(x:Ex)(vs:List Bool)(p:Option X):H:=B5 x vs++[⟨0,.box [.bool false]⟩,⟨0,.loop sla [6] L267_0 L267_1 p⟩]
theorem z5w(x y:Ex)(vs:List Bool)(u:Bool):ev pg (.call (.yld 6) [.bool u] (Ma x vs none++[⟨0,.arr 0 []⟩,⟨0,.box y.cells⟩]))=some { v:=.bool (u==false),st:=⟨[],Ma x vs (if u=false then none else some .ret)++[⟨0,.arr 0 []⟩,⟨0,.box y.cells⟩]⟩ }:=by rw[qia];cases u<;>simp[qci,L267_0,L267_1]
def zcc(x:Ex)(k:Nat):Tm:=[some (.yld 6),bN 0,bN 1,none,none,none,none,some (.imm (x.args.map Ex.row)),some (num x.args.length),nN k]++zN 10
theorem zzg(x:Ex)(vs:List Bool)(hx:x.nodes<=256)(ih:∀y∈x.args,ev pg (.call (fnq 208) [y.v,qdc vs] [])=some (rvq (.bool (y.holds vs)))){st:St}(h0:At (zcc x 0) (Ma x vs none) st):∃r,ev pg (.code (.going 7 L233_0) st)=some r/\qph x.args.length (fun k=>((x.args[k]?).map (Ex.holds vs)).getD false != false) (fun k=>qar .ret (List.replicate 20 none) (Ma x vs (some .ret)++[⟨0,.arr 0 []⟩,⟨0,.box (((x.args[k]?).map Ex.cells).getD [])⟩])) (qar (.exit 0) (List.replicate 20 none) (Ma x vs none)) r:=by
 have hfew:=qfk hx;refine qdw _ _ (zcc x) (Ma x vs none) _ _ ?_ ?_ ?_ h0
 .intro k f hf hk hp;have hk':(k:Int)<x.args.length:=by omega
  have wk:=qbc k;have hi:=ih _ (jH hk);have hh:x.args[k].holds vs=false:=by simpa[hk]using hp
  rw[hh]at hi;have hy:=z5w x x.args[k] vs false;simp at hy;simp[zcc,L233_0,hk,hk',wk,hi,hy,hf.ne]
 .intro k f hf hk hp;have hk':(k:Int)<x.args.length:=by omega
  have hi:=ih _ (jH hk);have hh:x.args[k].holds vs=(!false):=by simpa[hk]using hp
  rw[hh]at hi;have hy:=z5w x x.args[k] vs (!false);simp at hy hi;simp[zcc,L233_0,hk,hk',hi,hy,hf.ne]
 .intro f hf;simp[zcc,L233_0,hf.ne]
theorem ev267a(x:Ex)(vs:List Bool)(hx:x.nodes<=256)(ih:∀y∈x.args,ev pg (.call (fnq 208) [y.v,qdc vs] [])=some (rvq (.bool (y.holds vs)))):ev pg (.call (.fn 267 [] [.bptr 3 0]) [.fn 233 [] [.bptr 0 0,.bptr 1 0]] (B5 x vs))=some { v:=.bool (x.args.all fun y=>y.holds vs==false),st:=⟨[],B5 x vs⟩ }:=by
 have hl:=@zzg x vs hx ih;have h127:∃p,ev pg (.call (.fn 233 [] [.bptr 0 0,.bptr 1 0]) [.yld 6] (Ma x vs none))=some { v:=.tup [],st:=⟨[],Ma x vs p⟩ }/\((p=none/\(x.args.all fun y=>y.holds vs==false)=true)\/(p=some .ret/\(x.args.all fun y=>y.holds vs==false)=false)):=by
  rw[qaa,pg233.1];simp[-List.all_eq_true,-List.all_eq_false,ir233,qai];generalize hr:ev pg (.code (.going _ L233_0) _)=o;obtain⟨r,rfl,hQ⟩:∃r,o=some r/\_:=by rw[<-hr];exact hl (by simp[zcc])
  rcases hQ with⟨k,hk,hp,-,f,hf,rfl⟩ | ⟨hp,f,hf,rfl⟩
  .refine⟨some .ret,?_,.inr ⟨rfl,q7h hk (by simpa[hk]using hp)⟩⟩;simp[hk]
  .refine⟨none,?_,.inl ⟨rfl,q1o fun j hj=>by simpa[hj]using hp j hj⟩⟩;simp
 obtain⟨p,h127,hp⟩:=h127;generalize (x.args.all fun y=>y.holds vs==false)=B at *;rw[qaa,pg267.1];simp at h127;rcases hp with⟨rfl,rfl⟩ | ⟨rfl,rfl⟩
 .simp[ir267,qfm,h127]
 .simp[ir267,qfm,h127]
abbrev slb:List V:=[.fn 233 [] [.bptr 0 0,.bptr 1 0],.bptr 4 0,.undef,.bptr 5 0,.undef,.fn 233 [] [.bptr 0 0,.bptr 1 0],.undef,.undef,.undef,.undef]
abbrev Mb(x:Ex)(vs:List Bool)(p:Option X):H:=B5 x vs++[⟨0,.box [.bool false]⟩,⟨0,.loop slb [6] L267_0 L267_1 p⟩]
theorem z5x(x y:Ex)(vs:List Bool)(u:Bool):ev pg (.call (.yld 6) [.bool u] (Mb x vs none++[⟨0,.arr 0 []⟩,⟨0,.box y.cells⟩]))=some { v:=.bool (u==true),st:=⟨[],Mb x vs (if u=true then none else some .ret)++[⟨0,.arr 0 []⟩,⟨0,.box y.cells⟩]⟩ }:=by rw[qia];cases u<;>simp[qci,L267_0,L267_1]
def zcd(x:Ex)(k:Nat):Tm:=[some (.yld 6),bN 0,bN 1,none,none,none,none,some (.imm (x.args.map Ex.row)),some (num x.args.length),nN k]++zN 10
theorem zzh(x:Ex)(vs:List Bool)(hx:x.nodes<=256)(ih:∀y∈x.args,ev pg (.call (fnq 208) [y.v,qdc vs] [])=some (rvq (.bool (y.holds vs)))){st:St}(h0:At (zcd x 0) (Mb x vs none) st):∃r,ev pg (.code (.going 7 L233_0) st)=some r/\qph x.args.length (fun k=>((x.args[k]?).map (Ex.holds vs)).getD true != true) (fun k=>qar .ret (List.replicate 20 none) (Mb x vs (some .ret)++[⟨0,.arr 0 []⟩,⟨0,.box (((x.args[k]?).map Ex.cells).getD [])⟩])) (qar (.exit 0) (List.replicate 20 none) (Mb x vs none)) r:=by
 have hfew:=qfk hx;refine qdw _ _ (zcd x) (Mb x vs none) _ _ ?_ ?_ ?_ h0
 .intro k f hf hk hp;have hk':(k:Int)<x.args.length:=by omega
  have wk:=qbc k;have hi:=ih _ (jH hk);have hh:x.args[k].holds vs=true:=by simpa[hk]using hp
  rw[hh]at hi;have hy:=z5x x x.args[k] vs true;simp at hy;simp[zcd,L233_0,hk,hk',wk,hi,hy,hf.ne]
 .intro k f hf hk hp;have hk':(k:Int)<x.args.length:=by omega
  have hi:=ih _ (jH hk);have hh:x.args[k].holds vs=(!true):=by simpa[hk]using hp
  rw[hh]at hi;have hy:=z5x x x.args[k] vs (!true);simp at hy hi;simp[zcd,L233_0,hk,hk',hi,hy,hf.ne]
 .intro f hf;simp[zcd,L233_0,hf.ne]
theorem ev267b(x:Ex)(vs:List Bool)(hx:x.nodes<=256)(ih:∀y∈x.args,ev pg (.call (fnq 208) [y.v,qdc vs] [])=some (rvq (.bool (y.holds vs)))):ev pg (.call (.fn 267 [] [.bptr 4 0]) [.fn 233 [] [.bptr 0 0,.bptr 1 0]] (B5 x vs))=some { v:=.bool (x.args.all fun y=>y.holds vs==true),st:=⟨[],B5 x vs⟩ }:=by
 have hl:=@zzh x vs hx ih;have h127:∃p,ev pg (.call (.fn 233 [] [.bptr 0 0,.bptr 1 0]) [.yld 6] (Mb x vs none))=some { v:=.tup [],st:=⟨[],Mb x vs p⟩ }/\((p=none/\(x.args.all fun y=>y.holds vs==true)=true)\/(p=some .ret/\(x.args.all fun y=>y.holds vs==true)=false)):=by
  rw[qaa,pg233.1];simp[-List.all_eq_true,-List.all_eq_false,ir233,qai];generalize hr:ev pg (.code (.going _ L233_0) _)=o;obtain⟨r,rfl,hQ⟩:∃r,o=some r/\_:=by rw[<-hr];exact hl (by simp[zcd])
  rcases hQ with⟨k,hk,hp,-,f,hf,rfl⟩ | ⟨hp,f,hf,rfl⟩
  .refine⟨some .ret,?_,.inr ⟨rfl,q7h hk (by simpa[hk]using hp)⟩⟩;simp[hk]
  .refine⟨none,?_,.inl ⟨rfl,q1o fun j hj=>by simpa[hj]using hp j hj⟩⟩;simp
 obtain⟨p,h127,hp⟩:=h127;generalize (x.args.all fun y=>y.holds vs==true)=B at *;rw[qaa,pg267.1];simp at h127;rcases hp with⟨rfl,rfl⟩ | ⟨rfl,rfl⟩
 .simp[ir267,qfm,h127]
 .simp[ir267,qfm,h127]
abbrev slc:List V:=[.fn 233 [] [.bptr 0 0,.bptr 1 0],.bptr 5 0,.undef,.bptr 6 0,.undef,.fn 233 [] [.bptr 0 0,.bptr 1 0],.undef,.undef,.undef,.undef]
abbrev Mc(x:Ex)(vs:List Bool)(p:Option X):H:=B5 x vs++[⟨0,.box [.bool false]⟩]++[⟨0,.box [.bool false]⟩,⟨0,.loop slc [6] L267_0 L267_1 p⟩]
theorem z5y(x y:Ex)(vs:List Bool)(u:Bool):ev pg (.call (.yld 7) [.bool u] (Mc x vs none++[⟨0,.arr 0 []⟩,⟨0,.box y.cells⟩]))=some { v:=.bool (u==false),st:=⟨[],Mc x vs (if u=false then none else some .ret)++[⟨0,.arr 0 []⟩,⟨0,.box y.cells⟩]⟩ }:=by rw[qia];cases u<;>simp[qci,L267_0,L267_1]
def zce(x:Ex)(k:Nat):Tm:=[some (.yld 7),bN 0,bN 1,none,none,none,none,some (.imm (x.args.map Ex.row)),some (num x.args.length),nN k]++zN 10
theorem zzi(x:Ex)(vs:List Bool)(hx:x.nodes<=256)(ih:∀y∈x.args,ev pg (.call (fnq 208) [y.v,qdc vs] [])=some (rvq (.bool (y.holds vs)))){st:St}(h0:At (zce x 0) (Mc x vs none) st):∃r,ev pg (.code (.going 8 L233_0) st)=some r/\qph x.args.length (fun k=>((x.args[k]?).map (Ex.holds vs)).getD false != false) (fun k=>qar .ret (List.replicate 20 none) (Mc x vs (some .ret)++[⟨0,.arr 0 []⟩,⟨0,.box (((x.args[k]?).map Ex.cells).getD [])⟩])) (qar (.exit 0) (List.replicate 20 none) (Mc x vs none)) r:=by
 have hfew:=qfk hx;refine qdw _ _ (zce x) (Mc x vs none) _ _ ?_ ?_ ?_ h0
 .intro k f hf hk hp;have hk':(k:Int)<x.args.length:=by omega
  have wk:=qbc k;have hi:=ih _ (jH hk);have hh:x.args[k].holds vs=false:=by simpa[hk]using hp
  rw[hh]at hi;have hy:=z5y x x.args[k] vs false;simp at hy;simp[zce,L233_0,hk,hk',wk,hi,hy,hf.ne]
 .intro k f hf hk hp;have hk':(k:Int)<x.args.length:=by omega
  have hi:=ih _ (jH hk);have hh:x.args[k].holds vs=(!false):=by simpa[hk]using hp
  rw[hh]at hi;have hy:=z5y x x.args[k] vs (!false);simp at hy hi;simp[zce,L233_0,hk,hk',hi,hy,hf.ne]
 .intro f hf;simp[zce,L233_0,hf.ne]
theorem ev267c(x:Ex)(vs:List Bool)(hx:x.nodes<=256)(ih:∀y∈x.args,ev pg (.call (fnq 208) [y.v,qdc vs] [])=some (rvq (.bool (y.holds vs)))):ev pg (.call (.fn 267 [] [.bptr 5 0]) [.fn 233 [] [.bptr 0 0,.bptr 1 0]] (B5 x vs++[⟨0,.box [.bool false]⟩]))=some { v:=.bool (x.args.all fun y=>y.holds vs==false),st:=⟨[],B5 x vs++[⟨0,.box [.bool false]⟩]⟩ }:=by
 have hl:=@zzi x vs hx ih;have h127:∃p,ev pg (.call (.fn 233 [] [.bptr 0 0,.bptr 1 0]) [.yld 7] (Mc x vs none))=some { v:=.tup [],st:=⟨[],Mc x vs p⟩ }/\((p=none/\(x.args.all fun y=>y.holds vs==false)=true)\/(p=some .ret/\(x.args.all fun y=>y.holds vs==false)=false)):=by
  rw[qaa,pg233.1];simp[-List.all_eq_true,-List.all_eq_false,ir233,qai];generalize hr:ev pg (.code (.going _ L233_0) _)=o;obtain⟨r,rfl,hQ⟩:∃r,o=some r/\_:=by rw[<-hr];exact hl (by simp[zce])
  rcases hQ with⟨k,hk,hp,-,f,hf,rfl⟩ | ⟨hp,f,hf,rfl⟩
  .refine⟨some .ret,?_,.inr ⟨rfl,q7h hk (by simpa[hk]using hp)⟩⟩;simp[hk]
  .refine⟨none,?_,.inl ⟨rfl,q1o fun j hj=>by simpa[hj]using hp j hj⟩⟩;simp
 obtain⟨p,h127,hp⟩:=h127;generalize (x.args.all fun y=>y.holds vs==false)=B at *;rw[qaa,pg267.1];simp at h127;rcases hp with⟨rfl,rfl⟩ | ⟨rfl,rfl⟩
 .simp[ir267,qfm,h127]
 .simp[ir267,qfm,h127]
theorem ev251(x:Ex)(vs:List Bool)(hx:x.nodes<=256)(ih:∀y∈x.args,ev pg (.call (fnq 208) [y.v,qdc vs] [])=some (rvq (.bool (y.holds vs)))):ev pg (.call (fnq 251) [.fn 233 [] [.bptr 0 0,.bptr 1 0]] (B5 x vs))=some { v:=.bool (!(x.args.all fun y=>y.holds vs==false)),st:=⟨[],B5 x vs⟩ }:=by have h1:=ev250 false (B5 x vs);have h2:=ev267c x vs hx ih;generalize (x.args.all fun y=>y.holds vs==false)=B at *;rw[qaa,pg251.1];simp at h1 h2;simp[ir251,h1,h2]
theorem ev208(vs:List Bool):∀x:Ex,x.nodes<=256->x.err vs.length=0->ev pg (.call (fnq 208) [x.v,qdc vs] [])=some (rvq (.bool (x.holds vs))):=by
 refine Ex.ind fun x ih hx he=>?_;obtain⟨hn,hargs⟩:=qhk he;have ih':∀y∈x.args,ev pg (.call (fnq 208) [y.v,qdc vs] [])=some (rvq (.bool (y.holds vs))):=fun y hy=>ih y hy (by have:=qey hx hy;omega) (hargs y hy);have hop:x.op=0\/x.op=1\/x.op=2\/x.op=3\/x.op=4:=by
  unfold qbq at hn;by_cases h:x.op<0\/5<=x.op
  .rw[if_pos h]at hn;omega
  .omega
 have q5c:=ev231 x vs;have a:=ev267a x vs hx ih';have b:=ev267b x vs hx ih';have d:=ev251 x vs hx ih';have ea:(x.args.map (Ex.holds vs)).all (!·)=x.args.all fun y=>y.holds vs==false:=by rw[List.all_map];congr 1;funext y;cases h:y.holds vs<;>simp[h]
 have eb:(x.args.map (Ex.holds vs)).all id=x.args.all fun y=>y.holds vs==true:=by rw[List.all_map];congr 1;funext y;cases h:y.holds vs<;>simp[h]
 have ed:(x.args.map (Ex.holds vs)).any id=!(x.args.all fun y=>y.holds vs==false):=by rw[List.any_map,List.not_all_eq_any_not];congr 1;funext y;cases h:y.holds vs<;>simp[h]
 rw[qom,ea,eb,ed];generalize (x.args.all fun y=>y.holds vs==false)=B1 at *;generalize (x.args.all fun y=>y.holds vs==true)=B2 at *;rw[qaa,pg208.1];rcases hop with h | h | h | h | h
 .simp[ir208,h]
 .obtain⟨hi0,hi1⟩:=qju hn h;have hin:x.idx.toNat<vs.length:=by omega
  simp[ir208,h,hi0,hin]
 .simp[B5,Ex.cells,h]at q5c a;simp[qab,exT,qag,ir208,h,q5c,a]
 .simp[B5,Ex.cells,h]at q5c b;simp[qab,exT,qag,ir208,h,q5c,b]
 .simp[B5,Ex.cells,h]at q5c d;simp[qab,exT,qag,ir208,h,q5c,d]
theorem ev178(x:Ex)(vs:List Bool)(hx:x.light=true)(hv:vs.length<=256)(he:x.check vs.length=0):ev pg (.call (fnq 178) [x.v,qdc vs] [])=some (rvq (.tup [.bool (x.holds vs),num 0])):=by
 have h111:=ev163 x vs.length hx;have he':x.err vs.length=0:=by unfold Ex.check at he;rw[if_neg (by omega),if_pos hx]at he;exact he
 have h112:=ev208 vs x (qdq hx).1 he';rw[he]at h111;rw[qaa,pg178.1];simp[ir178,h111,h112]
end Go.Proofs.YtggbaapfbgjaeaaGreatDoor
