/- Loops of Am, by a picture of the slots and of the memory. States: how they stand in Am's memory; equal states, by the reference. Values of expressions, by the program. -/
import Derived.Test.YtddeacahiilikaaGreatEn6
import Derived.Test.YtddeacahiilikaaGreatZ2
set_option linter.all false
namespace Go.Am
abbrev Tm:=List (Option V)
def fill(f:Nat->V):Nat->Tm->List V
 | _,[]=>[]
 | i,some v :: t=>v :: fill f (i+1) t
 | i,none :: t=>f i :: fill f (i+1) t
def fits:Tm->List V->Prop
 | [],[]=>True
 | some v :: t,x :: s=>x=v/\fits t s
 | none :: t,x :: s=>x ≠ .nils/\fits t s
 | _,_=>False
def Junk(f:Nat->V):Prop:=∀i,f i ≠ .nils
theorem qpj:∀{t:Tm} {s:List V} (n:Nat),fits t s->∃f,Junk f/\s=fill f n t
 | [],[],_,_=>⟨fun _=>.undef,fun _=>by simp,rfl⟩
 | [],_ :: _,_,h=>by simp[fits]at h
 | some _ :: _,[],_,h=>by simp[fits]at h
 | none :: _,[],_,h=>by simp[fits]at h
 | some v :: t,x :: s,n,h=>by
  obtain⟨rfl,h2⟩:=h
  obtain⟨f,hf,rfl⟩:=qpj (n+1) h2
  exact⟨f,hf,rfl⟩
 | none :: t,x :: s,n,h=>by
  obtain⟨hx,h2⟩:=h
  obtain⟨f,hf,rfl⟩:=qpj (n+1) h2
  refine⟨fun i=>if i=n then x else f i,fun i=>?_,?_⟩
  .simp only
   split
   .exact hx
   .exact hf i
  .have:∀(t:Tm) (m:Nat),n<m->fill (fun i=>if i=n then x else f i) m t=fill f m t:=by
    intro t
    induction t with
    | nil=>intro m _;rfl
    | cons o t ih =>
     intro m hm
     cases o with
     | none=>simp only[fill,ih (m+1) (by omega)];rw[if_neg (by omega)]
     | some v=>simp only[fill,ih (m+1) (by omega)]
   simp only[fill,if_true]
   rw[this t (n+1) (by omega)]
structure At(T:Tm)(h:H)(st:St):Prop where
 s:fits T st.s
 h:st.h=h
theorem At.eq{T:Tm}{h:H}{st:St}(a:At T h st):∃f,Junk f/\st=⟨fill f 0 T,h⟩:=by
 obtain⟨f,hf,e⟩:=qpj 0 a.s
 refine⟨f,hf,?_⟩
 obtain⟨s,h'⟩:=st
 obtain rfl:h'=h:=a.h
 obtain rfl:s=fill f 0 T:=e
 rfl
theorem qcz{P:Prg}{nx:Nat}{c:C}{α:Type}(N:Nat)(T:Nat->α->Tm)(Hp:Nat->α->H)(G:Nat->α->Prop)(Q:R->Prop)
  (step:∀k a f,Junk f->k<N->G k a->∃r,ev P (.code c ⟨fill f 0 (T k a),Hp k a⟩)=some r/\((r.x=.normal/\∃a',G (k+1) a'/\At (T (k+1) a') (Hp (k+1) a') (qil nx r.st))\/(r.x ≠ .normal/\Q r)))
  (last:∀a f,Junk f->G N a->∃r,ev P (.code c ⟨fill f 0 (T N a),Hp N a⟩)=some r/\r.x ≠ .normal/\Q r)
  {st:St} (a0:α) (g0:G 0 a0) (h0:At (T 0 a0) (Hp 0 a0) st):∃r,ev P (.code (.going nx c) st)=some r/\Q r:=by
 refine qaq (fun k st=>∃a,G k a/\At (T k a) (Hp k a) st) N Q ⟨a0,g0,h0⟩ ?_ ?_
 .rintro k st hk ⟨a,g,h⟩
  obtain⟨f,hf,rfl⟩:=h.eq
  exact step k a f hf hk g
 .rintro st ⟨a,g,h⟩
  obtain⟨f,hf,rfl⟩:=h.eq
  exact last a f hf g
theorem qex{P:Prg}{nx:Nat}{c:C}(N:Nat)(T:Nat->Tm)(Hp:Nat->H)(Q:R->Prop)
  (step:∀k f,Junk f->k<N->∃r,ev P (.code c ⟨fill f 0 (T k),Hp k⟩)=some r/\((r.x=.normal/\At (T (k+1)) (Hp (k+1)) (qil nx r.st))\/(r.x ≠ .normal/\Q r)))
  (last:∀f,Junk f->∃r,ev P (.code c ⟨fill f 0 (T N),Hp N⟩)=some r/\r.x ≠ .normal/\Q r)
  {st:St} (h0:At (T 0) (Hp 0) st):∃r,ev P (.code (.going nx c) st)=some r/\Q r :=
 qcz (α:=Unit) N (fun k _=>T k) (fun k _=>Hp k) (fun _ _=>True) Q
  (fun k _ f hf hk _=>by
   obtain⟨r,e,h⟩:=step k f hf hk
   refine⟨r,e,?_⟩
   rcases h with⟨hx,h⟩ | h
   .exact .inl ⟨hx,(),trivial,h⟩
   .exact .inr h)
  (fun _ f hf _=>last f hf) () trivial h0
def qlx(N:Nat)(p:Nat->Bool)(X:Nat->R->Prop)(Y:R->Prop)(r:R):Prop:=(∃k,k<N/\p k=true/\(∀j,j<k->p j=false)/\X k r)\/((∀j,j<N->p j=false)/\Y r)
theorem qdn{P:Prg}{nx:Nat}{c:C}(N:Nat)(p:Nat->Bool)(T:Nat->Tm)(h:H)(X:Nat->R->Prop)(Y:R->Prop)
  (go:∀k f,Junk f->k<N->p k=false->∃st,ev P (.code c ⟨fill f 0 (T k),h⟩)=some { st:=st }/\At (T (k+1)) h (qil nx st))
  (hit:∀k f,Junk f->k<N->p k=true->∃r,ev P (.code c ⟨fill f 0 (T k),h⟩)=some r/\r.x ≠ .normal/\X k r)
  (last:∀f,Junk f->∃r,ev P (.code c ⟨fill f 0 (T N),h⟩)=some r/\r.x ≠ .normal/\Y r)
  {st:St} (h0:At (T 0) h st):∃r,ev P (.code (.going nx c) st)=some r/\qlx N p X Y r:=by
 refine qcz (α:=Unit) N (fun k _=>T k) (fun _ _=>h) (fun k _=>∀j,j<k->p j=false) _ ?_ ?_ () (fun j hj=>absurd hj (Nat.not_lt_zero j)) h0
 .intro k _ f hf hk hp
  cases hb:p k with
  | false =>
   obtain⟨st,e,ha⟩:=go k f hf hk hb
   refine⟨_,e,.inl ⟨rfl,(),fun j hj=>?_,ha⟩⟩
   by_cases hjk:j=k
   .rw[hjk];exact hb
   .exact hp j (by omega)
  | true =>
   obtain⟨r,e,hx,hX⟩:=hit k f hf hk hb
   exact⟨r,e,.inr ⟨hx,.inl ⟨k,hk,hb,hp,hX⟩⟩⟩
 .intro _ f hf hp
  obtain⟨r,e,hx,hY⟩:=last f hf
  exact⟨r,e,hx,.inr ⟨hp,hY⟩⟩
def qam(x:X)(T:Tm)(h:H)(r:R):Prop:=∃f,Junk f/\r={ x:=x,st:=⟨fill f 0 T,h⟩ }
@[simp] theorem z7u{x x':X}{T:Tm}{h:H}{st:St}:qam x T h { x:=x',v:=.undef,st:=st }<->x'=x/\At T h st:=by
 constructor
 .rintro⟨f,hf,e⟩
  injection e with e1 _ e3
  subst e3
  refine⟨e1,?_,rfl⟩
  have:∀(t:Tm) (n:Nat),fits t (fill f n t):=by
   intro t
   induction t with
   | nil=>intro n;trivial
   | cons o t ih =>
    intro n
    cases o with
    | none=>exact⟨hf n,ih (n+1)⟩
    | some v=>exact⟨rfl,ih (n+1)⟩
  exact this T 0
 .rintro⟨rfl,h⟩
  obtain⟨f,hf,rfl⟩:=h.eq
  exact⟨f,hf,rfl⟩
theorem z3p{T:Tm}{h h':H}{s:List V}:At T h ⟨s,h'⟩<->fits T s/\h'=h:=⟨fun a=>⟨a.s,a.h⟩,fun a=>⟨a.1,a.2⟩⟩
attribute [simp] fill fits z3p
@[simp] theorem Junk.ne{f:Nat->V}(hf:Junk f)(i:Nat):(f i=.nils)=False:=by simp[hf i]
end Go.Am
namespace Go.Proofs.YtddeacahiilikaaGreat
open Go Go.Am Go.Proofs
set_option maxRecDepth 100000
abbrev qfd(l:List Bool):V:=.imm (l.map qht)
structure Ste where
 ends:List Int
 valves:List Bool
 inputs:List Bool
 values:List Bool
 timers:List Int
abbrev Ste.cells(s:Ste):List V:=[qcl s.ends,qfd s.valves,qfd s.inputs,qfd s.values,qcl s.timers]
abbrev Ste.v(s:Ste):V:=.agg s.cells
def zeroS:Ste:=⟨[],[],[],[],[]⟩
@[simp] theorem z2n(l:List Bool):qwh (l.map qht) (l.map qht)=true:=qgt (fun x=>by simp) l
mutual
def Ex.holds(vs:List Bool):Ex->Bool
 | .mk o i l=>if o=0 then i==1 else if o=1 then(vs[i.toNat]?).getD false else if o=2 then(qwv vs l).all (!·)else if o=3 then(qwv vs l).all id else(qwv vs l).any id
def qwv(vs:List Bool):List Ex->List Bool
 | []=>[]
 | x :: l=>x.holds vs :: qwv vs l
end
theorem qxn(vs:List Bool):∀l:List Ex,qwv vs l=l.map (Ex.holds vs)
 | []=>rfl
 | x :: l=>by rw[qwv,qxn vs l];rfl
theorem qol(vs:List Bool)(x:Ex):x.holds vs=if x.op=0 then x.idx==1 else if x.op=1 then(vs[x.idx.toNat]?).getD false else if x.op=2 then(x.args.map (Ex.holds vs)).all (!·)else if x.op=3 then(x.args.map (Ex.holds vs)).all id else(x.args.map (Ex.holds vs)).any id:=by
 cases x;rw[Ex.holds,qxn];rfl
abbrev sh5:List V:=[num 0,num 0,.nilfn,num 0,num 0,.nilfn,num 1,num 1,.fn 306 [] [.bptr 3 0],num 2,num 256,.fn 306 [] [.bptr 4 0],num 2,num 256,.fn 298 [] []]
abbrev B5(x:Ex)(vs:List Bool):H:=[⟨0,.box x.cells⟩,⟨0,.box [qfd vs]⟩,⟨0,.box sh5⟩,⟨0,.box [.bool false]⟩,⟨0,.box [.bool true]⟩]
theorem ev297(b:Bool)(h:H):ev pg (.call (.fn 297 [] []) [.bool b] h)=some { v:=.fn 306 [] [.bptr h.length 0],st:=⟨[],h++[⟨0,.box [.bool b]⟩]⟩ }:=by
 rw[qac,pg297]
 simp[ir297]
theorem ev275(x:Ex)(vs:List Bool):ev pg (.call (.fn 275 [] []) [] [⟨0,.box x.cells⟩,⟨0,.box [qfd vs]⟩])=some { v:=.agg sh5,st:=⟨[],B5 x vs⟩ }:=by
 have h1:=ev297 false
 have h2:=ev297 true
 rw[qac,pg275]
 simp[ir275,h1,h2]
theorem q6k{p:Ex->Bool}{l:List Ex}{k:Nat}(hk:k<l.length)(h:p l[k]=false):l.all p=false:=by
 rw[List.all_eq_false];exact⟨_,jH hk,by simp[h]⟩
theorem qzm{p:Ex->Bool}{l:List Ex}(h:∀j (hj:j<l.length),p l[j]=true):l.all p=true:=by
 rw[jP]
 intro x hx
 obtain⟨j,hj,rfl⟩:=List.getElem_of_mem hx
 exact h j hj
abbrev sla:List V:=[.fn 276 [] [.bptr 0 0,.bptr 1 0],.bptr 3 0,.undef,.bptr 5 0,.undef,.fn 276 [] [.bptr 0 0,.bptr 1 0],.undef,.undef,.undef,.undef]
abbrev Ma(x:Ex)(vs:List Bool)(p:Option X):H:=B5 x vs++[⟨0,.box [.bool false]⟩,⟨0,.loop sla [6] L306_0 L306_1 p⟩]
theorem jje(x y:Ex)(vs:List Bool)(u:Bool):ev pg (.call (.yld 6) [.bool u] (Ma x vs none++[⟨0,.arr 0 []⟩,⟨0,.box y.cells⟩]))=some { v:=.bool (u==false),st:=⟨[],Ma x vs (if u=false then none else some .ret)++[⟨0,.arr 0 []⟩,⟨0,.box y.cells⟩]⟩ }:=by
 rw[qky]
 cases u<;>simp[qck,L306_0,L306_1]
def zbf(x:Ex)(k:Nat):Tm:=[some (.yld 6),some (.bptr 0 0),some (.bptr 1 0),none,none,none,none,some (.imm (x.args.map Ex.row)),some (num x.args.length),some (num k)]++List.replicate 10 none
theorem z2l(x:Ex)(vs:List Bool)(hx:x.nodes<=256)(ih:∀y∈x.args,ev pg (.call (.fn 236 [] []) [y.v,qfd vs] [])=some { v:=.bool (y.holds vs),st:=⟨[],[]⟩ }){st:St}(h0:At (zbf x 0) (Ma x vs none) st):∃r,ev pg (.code (.going 7 L276_0) st)=some r/\qlx x.args.length (fun k=>((x.args[k]?).map (Ex.holds vs)).getD false != false) (fun k=>qam .ret (List.replicate 20 none) (Ma x vs (some .ret)++[⟨0,.arr 0 []⟩,⟨0,.box (((x.args[k]?).map Ex.cells).getD [])⟩])) (qam (.exit 0) (List.replicate 20 none) (Ma x vs none)) r:=by
 have hfew:=qew hx
 refine qdn _ _ (zbf x) (Ma x vs none) _ _ ?_ ?_ ?_ h0
 .intro k f hf hk hp
  have hk':(k:Int)<x.args.length:=by omega
  have wk:=qab (n:=(k:Int)+1) (by omega) (by omega)
  have hi:=ih _ (jH hk)
  have hh:x.args[k].holds vs=false:=by simpa[hk]using hp
  rw[hh]at hi
  have hy:=jje x x.args[k] vs false
  simp at hy
  simp[zbf,L276_0,hk,hk',wk,hi,hy,hf.ne]
 .intro k f hf hk hp
  have hk':(k:Int)<x.args.length:=by omega
  have hi:=ih _ (jH hk)
  have hh:x.args[k].holds vs=(!false):=by simpa[hk]using hp
  rw[hh]at hi
  have hy:=jje x x.args[k] vs (!false)
  simp at hy hi
  simp[zbf,L276_0,hk,hk',hi,hy,hf.ne]
 .intro f hf
  simp[zbf,L276_0,hf.ne]
theorem ev306a(x:Ex)(vs:List Bool)(hx:x.nodes<=256)(ih:∀y∈x.args,ev pg (.call (.fn 236 [] []) [y.v,qfd vs] [])=some { v:=.bool (y.holds vs),st:=⟨[],[]⟩ }):ev pg (.call (.fn 306 [] [.bptr 3 0]) [.fn 276 [] [.bptr 0 0,.bptr 1 0]] (B5 x vs))=some { v:=.bool (x.args.all fun y=>y.holds vs==false),st:=⟨[],B5 x vs⟩ }:=by
 have hl:=@z2l x vs hx ih
 have h127:∃p,ev pg (.call (.fn 276 [] [.bptr 0 0,.bptr 1 0]) [.yld 6] (Ma x vs none))=some { v:=.tup [],st:=⟨[],Ma x vs p⟩ }/\((p=none/\(x.args.all fun y=>y.holds vs==false)=true)\/(p=some .ret/\(x.args.all fun y=>y.holds vs==false)=false)):=by
  rw[qac,pg276]
  simp[-List.all_eq_true,-List.all_eq_false,ir276,qag]
  generalize hr:ev pg (.code (.going _ L276_0) _)=o
  obtain⟨r,rfl,hQ⟩:∃r,o=some r/\_:=by rw[<-hr];exact hl (by simp[zbf])
  rcases hQ with⟨k,hk,hp,-,f,hf,rfl⟩ | ⟨hp,f,hf,rfl⟩
  .refine⟨some .ret,?_,.inr ⟨rfl,q6k hk (by simpa[hk]using hp)⟩⟩
   simp[hk]
  .refine⟨none,?_,.inl ⟨rfl,qzm fun j hj=>by simpa[hj]using hp j hj⟩⟩
   simp
 obtain⟨p,h127,hp⟩:=h127
 generalize (x.args.all fun y=>y.holds vs==false)=B at *
 rw[qac,pg306]
 simp at h127
 rcases hp with⟨rfl,rfl⟩ | ⟨rfl,rfl⟩
 .simp[ir306,qhl,h127]
 .simp[ir306,qhl,h127]
abbrev slb:List V:=[.fn 276 [] [.bptr 0 0,.bptr 1 0],.bptr 4 0,.undef,.bptr 5 0,.undef,.fn 276 [] [.bptr 0 0,.bptr 1 0],.undef,.undef,.undef,.undef]
abbrev Mb(x:Ex)(vs:List Bool)(p:Option X):H:=B5 x vs++[⟨0,.box [.bool false]⟩,⟨0,.loop slb [6] L306_0 L306_1 p⟩]
theorem jim(x y:Ex)(vs:List Bool)(u:Bool):ev pg (.call (.yld 6) [.bool u] (Mb x vs none++[⟨0,.arr 0 []⟩,⟨0,.box y.cells⟩]))=some { v:=.bool (u==true),st:=⟨[],Mb x vs (if u=true then none else some .ret)++[⟨0,.arr 0 []⟩,⟨0,.box y.cells⟩]⟩ }:=by
 rw[qky]
 cases u<;>simp[qck,L306_0,L306_1]
def zcs(x:Ex)(k:Nat):Tm:=[some (.yld 6),some (.bptr 0 0),some (.bptr 1 0),none,none,none,none,some (.imm (x.args.map Ex.row)),some (num x.args.length),some (num k)]++List.replicate 10 none
theorem z3x(x:Ex)(vs:List Bool)(hx:x.nodes<=256)(ih:∀y∈x.args,ev pg (.call (.fn 236 [] []) [y.v,qfd vs] [])=some { v:=.bool (y.holds vs),st:=⟨[],[]⟩ }){st:St}(h0:At (zcs x 0) (Mb x vs none) st):∃r,ev pg (.code (.going 7 L276_0) st)=some r/\qlx x.args.length (fun k=>((x.args[k]?).map (Ex.holds vs)).getD true != true) (fun k=>qam .ret (List.replicate 20 none) (Mb x vs (some .ret)++[⟨0,.arr 0 []⟩,⟨0,.box (((x.args[k]?).map Ex.cells).getD [])⟩])) (qam (.exit 0) (List.replicate 20 none) (Mb x vs none)) r:=by
 have hfew:=qew hx
 refine qdn _ _ (zcs x) (Mb x vs none) _ _ ?_ ?_ ?_ h0
 .intro k f hf hk hp
  have hk':(k:Int)<x.args.length:=by omega
  have wk:=qab (n:=(k:Int)+1) (by omega) (by omega)
  have hi:=ih _ (jH hk)
  have hh:x.args[k].holds vs=true:=by simpa[hk]using hp
  rw[hh]at hi
  have hy:=jim x x.args[k] vs true
  simp at hy
  simp[zcs,L276_0,hk,hk',wk,hi,hy,hf.ne]
 .intro k f hf hk hp
  have hk':(k:Int)<x.args.length:=by omega
  have hi:=ih _ (jH hk)
  have hh:x.args[k].holds vs=(!true):=by simpa[hk]using hp
  rw[hh]at hi
  have hy:=jim x x.args[k] vs (!true)
  simp at hy hi
  simp[zcs,L276_0,hk,hk',hi,hy,hf.ne]
 .intro f hf
  simp[zcs,L276_0,hf.ne]
theorem ev306b(x:Ex)(vs:List Bool)(hx:x.nodes<=256)(ih:∀y∈x.args,ev pg (.call (.fn 236 [] []) [y.v,qfd vs] [])=some { v:=.bool (y.holds vs),st:=⟨[],[]⟩ }):ev pg (.call (.fn 306 [] [.bptr 4 0]) [.fn 276 [] [.bptr 0 0,.bptr 1 0]] (B5 x vs))=some { v:=.bool (x.args.all fun y=>y.holds vs==true),st:=⟨[],B5 x vs⟩ }:=by
 have hl:=@z3x x vs hx ih
 have h127:∃p,ev pg (.call (.fn 276 [] [.bptr 0 0,.bptr 1 0]) [.yld 6] (Mb x vs none))=some { v:=.tup [],st:=⟨[],Mb x vs p⟩ }/\((p=none/\(x.args.all fun y=>y.holds vs==true)=true)\/(p=some .ret/\(x.args.all fun y=>y.holds vs==true)=false)):=by
  rw[qac,pg276]
  simp[-List.all_eq_true,-List.all_eq_false,ir276,qag]
  generalize hr:ev pg (.code (.going _ L276_0) _)=o
  obtain⟨r,rfl,hQ⟩:∃r,o=some r/\_:=by rw[<-hr];exact hl (by simp[zcs])
  rcases hQ with⟨k,hk,hp,-,f,hf,rfl⟩ | ⟨hp,f,hf,rfl⟩
  .refine⟨some .ret,?_,.inr ⟨rfl,q6k hk (by simpa[hk]using hp)⟩⟩
   simp[hk]
  .refine⟨none,?_,.inl ⟨rfl,qzm fun j hj=>by simpa[hj]using hp j hj⟩⟩
   simp
 obtain⟨p,h127,hp⟩:=h127
 generalize (x.args.all fun y=>y.holds vs==true)=B at *
 rw[qac,pg306]
 simp at h127
 rcases hp with⟨rfl,rfl⟩ | ⟨rfl,rfl⟩
 .simp[ir306,qhl,h127]
 .simp[ir306,qhl,h127]
abbrev slc:List V:=[.fn 276 [] [.bptr 0 0,.bptr 1 0],.bptr 5 0,.undef,.bptr 6 0,.undef,.fn 276 [] [.bptr 0 0,.bptr 1 0],.undef,.undef,.undef,.undef]
abbrev Mc(x:Ex)(vs:List Bool)(p:Option X):H:=B5 x vs++[⟨0,.box [.bool false]⟩]++[⟨0,.box [.bool false]⟩,⟨0,.loop slc [6] L306_0 L306_1 p⟩]
theorem jis(x y:Ex)(vs:List Bool)(u:Bool):ev pg (.call (.yld 7) [.bool u] (Mc x vs none++[⟨0,.arr 0 []⟩,⟨0,.box y.cells⟩]))=some { v:=.bool (u==false),st:=⟨[],Mc x vs (if u=false then none else some .ret)++[⟨0,.arr 0 []⟩,⟨0,.box y.cells⟩]⟩ }:=by
 rw[qky]
 cases u<;>simp[qck,L306_0,L306_1]
def zah(x:Ex)(k:Nat):Tm:=[some (.yld 7),some (.bptr 0 0),some (.bptr 1 0),none,none,none,none,some (.imm (x.args.map Ex.row)),some (num x.args.length),some (num k)]++List.replicate 10 none
theorem z5a(x:Ex)(vs:List Bool)(hx:x.nodes<=256)(ih:∀y∈x.args,ev pg (.call (.fn 236 [] []) [y.v,qfd vs] [])=some { v:=.bool (y.holds vs),st:=⟨[],[]⟩ }){st:St}(h0:At (zah x 0) (Mc x vs none) st):∃r,ev pg (.code (.going 8 L276_0) st)=some r/\qlx x.args.length (fun k=>((x.args[k]?).map (Ex.holds vs)).getD false != false) (fun k=>qam .ret (List.replicate 20 none) (Mc x vs (some .ret)++[⟨0,.arr 0 []⟩,⟨0,.box (((x.args[k]?).map Ex.cells).getD [])⟩])) (qam (.exit 0) (List.replicate 20 none) (Mc x vs none)) r:=by
 have hfew:=qew hx
 refine qdn _ _ (zah x) (Mc x vs none) _ _ ?_ ?_ ?_ h0
 .intro k f hf hk hp
  have hk':(k:Int)<x.args.length:=by omega
  have wk:=qab (n:=(k:Int)+1) (by omega) (by omega)
  have hi:=ih _ (jH hk)
  have hh:x.args[k].holds vs=false:=by simpa[hk]using hp
  rw[hh]at hi
  have hy:=jis x x.args[k] vs false
  simp at hy
  simp[zah,L276_0,hk,hk',wk,hi,hy,hf.ne]
 .intro k f hf hk hp
  have hk':(k:Int)<x.args.length:=by omega
  have hi:=ih _ (jH hk)
  have hh:x.args[k].holds vs=(!false):=by simpa[hk]using hp
  rw[hh]at hi
  have hy:=jis x x.args[k] vs (!false)
  simp at hy hi
  simp[zah,L276_0,hk,hk',hi,hy,hf.ne]
 .intro f hf
  simp[zah,L276_0,hf.ne]
theorem ev306c(x:Ex)(vs:List Bool)(hx:x.nodes<=256)(ih:∀y∈x.args,ev pg (.call (.fn 236 [] []) [y.v,qfd vs] [])=some { v:=.bool (y.holds vs),st:=⟨[],[]⟩ }):ev pg (.call (.fn 306 [] [.bptr 5 0]) [.fn 276 [] [.bptr 0 0,.bptr 1 0]] (B5 x vs++[⟨0,.box [.bool false]⟩]))=some { v:=.bool (x.args.all fun y=>y.holds vs==false),st:=⟨[],B5 x vs++[⟨0,.box [.bool false]⟩]⟩ }:=by
 have hl:=@z5a x vs hx ih
 have h127:∃p,ev pg (.call (.fn 276 [] [.bptr 0 0,.bptr 1 0]) [.yld 7] (Mc x vs none))=some { v:=.tup [],st:=⟨[],Mc x vs p⟩ }/\((p=none/\(x.args.all fun y=>y.holds vs==false)=true)\/(p=some .ret/\(x.args.all fun y=>y.holds vs==false)=false)):=by
  rw[qac,pg276]
  simp[-List.all_eq_true,-List.all_eq_false,ir276,qag]
  generalize hr:ev pg (.code (.going _ L276_0) _)=o
  obtain⟨r,rfl,hQ⟩:∃r,o=some r/\_:=by rw[<-hr];exact hl (by simp[zah])
  rcases hQ with⟨k,hk,hp,-,f,hf,rfl⟩ | ⟨hp,f,hf,rfl⟩
  .refine⟨some .ret,?_,.inr ⟨rfl,q6k hk (by simpa[hk]using hp)⟩⟩
   simp[hk]
  .refine⟨none,?_,.inl ⟨rfl,qzm fun j hj=>by simpa[hj]using hp j hj⟩⟩
   simp
 obtain⟨p,h127,hp⟩:=h127
 generalize (x.args.all fun y=>y.holds vs==false)=B at *
 rw[qac,pg306]
 simp at h127
 rcases hp with⟨rfl,rfl⟩ | ⟨rfl,rfl⟩
 .simp[ir306,qhl,h127]
 .simp[ir306,qhl,h127]
theorem ev298(x:Ex)(vs:List Bool)(hx:x.nodes<=256)(ih:∀y∈x.args,ev pg (.call (.fn 236 [] []) [y.v,qfd vs] [])=some { v:=.bool (y.holds vs),st:=⟨[],[]⟩ }):ev pg (.call (.fn 298 [] []) [.fn 276 [] [.bptr 0 0,.bptr 1 0]] (B5 x vs))=some { v:=.bool (!(x.args.all fun y=>y.holds vs==false)),st:=⟨[],B5 x vs⟩ }:=by
 have h1:=ev297 false (B5 x vs)
 have h2:=ev306c x vs hx ih
 generalize (x.args.all fun y=>y.holds vs==false)=B at *
 rw[qac,pg298]
 simp at h1 h2
 simp[ir298,h1,h2]
theorem ev236(vs:List Bool):∀x:Ex,x.nodes<=256->x.err vs.length=0->ev pg (.call (.fn 236 [] []) [x.v,qfd vs] [])=some { v:=.bool (x.holds vs),st:=⟨[],[]⟩ }:=by
 refine Ex.ind fun x ih hx he=>?_
 obtain⟨hn,hargs⟩:=qmz he
 have ih':∀y∈x.args,ev pg (.call (.fn 236 [] []) [y.v,qfd vs] [])=some { v:=.bool (y.holds vs),st:=⟨[],[]⟩ }:=fun y hy=>ih y hy (by have:=qei hx hy;omega) (hargs y hy)
 have hop:x.op=0\/x.op=1\/x.op=2\/x.op=3\/x.op=4:=by
  unfold qbq at hn
  by_cases h:x.op<0\/5<=x.op
  .rw[if_pos h]at hn;omega
  .omega
 have h126:=ev275 x vs
 have a:=ev306a x vs hx ih'
 have b:=ev306b x vs hx ih'
 have d:=ev298 x vs hx ih'
 have ea:(x.args.map (Ex.holds vs)).all (!·)=x.args.all fun y=>y.holds vs==false:=by
  rw[List.all_map];congr 1;funext y;cases h:y.holds vs<;>simp[h]
 have eb:(x.args.map (Ex.holds vs)).all id=x.args.all fun y=>y.holds vs==true:=by
  rw[List.all_map];congr 1;funext y;cases h:y.holds vs<;>simp[h]
 have ed:(x.args.map (Ex.holds vs)).any id=!(x.args.all fun y=>y.holds vs==false):=by
  rw[List.any_map,List.not_all_eq_any_not];congr 1;funext y;cases h:y.holds vs<;>simp[h]
 rw[qol,ea,eb,ed]
 generalize (x.args.all fun y=>y.holds vs==false)=B1 at *
 generalize (x.args.all fun y=>y.holds vs==true)=B2 at *
 rw[qac,pg236]
 rcases hop with h | h | h | h | h
 .simp[ir236,h]
 .obtain⟨hi0,hi1⟩:=qsz hn h
  have hin:x.idx.toNat<vs.length:=by omega
  simp[ir236,h,hi0,hin]
 .simp[B5,Ex.cells,h]at h126 a
  simp[qaa,exT,qaf,ir236,h,h126,a]
 .simp[B5,Ex.cells,h]at h126 b
  simp[qaa,exT,qaf,ir236,h,h126,b]
 .simp[B5,Ex.cells,h]at h126 d
  simp[qaa,exT,qaf,ir236,h,h126,d]
theorem ev192(x:Ex)(vs:List Bool)(hx:x.light=true)(hv:vs.length<=256)(he:x.check vs.length=0):ev pg (.call (.fn 192 [] []) [x.v,qfd vs] [])=some { v:=.tup [.bool (x.holds vs),num 0],st:=⟨[],[]⟩ }:=by
 have h111:=ev231 x vs.length hx
 have he':x.err vs.length=0:=by
  unfold Ex.check at he
  rw[if_neg (by omega),if_pos hx]at he
  exact he
 have h112:=ev236 vs x (qbx hx).1 he'
 rw[he]at h111
 rw[qac,pg192]
 simp[ir192,h111,h112]
end Go.Proofs.YtddeacahiilikaaGreat
