/- The errors. -/
import Derived.Test.YtggbaapfbgjaeaaGreatDoorFEx3
import Derived.Test.YtggbaapfbgjaeaaGreatDoorFEn2
set_option linter.all false
namespace Go.Proofs.YtggbaapfbgjaeaaGreatDoor
open Go Go.Am Go.Proofs
set_option maxRecDepth 100000
def calm(h:H):Prop:=h.map (qbx h.length)=h
theorem zej{n:Nat}{v:V}(h:qbf n v=v):v.low n=true:=by
 unfold qbf at h;split at h
 .assumption
 .rw[<-h];rfl
theorem qxh{n:Nat}:∀{l:List V},l.map (qbf n)=l->qeq n l=true
 | [],_=>rfl
 | v :: l,h=>by simp only[List.map_cons,List.cons.injEq]at h;simp only[qeq,zej h.1,qxh h.2,Bool.and_self]
theorem q8t{m n:Nat}(hmn:m<=n){o:Ob}(h:qbx m o=o):qbx n o=o:=by
 unfold qbx at h ⊢;split<;>rename_i hk<;>simp only[hk]at h ⊢
 .rename_i cells;have h2:=congrArg Ob.k h;simp only[hk,K.box.injEq]at h2;rw[qno (qcw hmn _ (qxh h2))];rw[<-hk]
 .rename_i sl ps a b p;have h2:=congrArg Ob.k h;simp only[hk,K.loop.injEq,and_true]at h2;rw[qno (qcw hmn _ (qxh h2))];rw[<-hk]
theorem zjb{h:H}{f:Ob->Ob}:(h.map f=h)<->∀o∈h,f o=o:=by
 induction h with
 | nil=>simp
 | cons o h ih=>simp[ih]
theorem qod{h:H}:calm h<->∀o∈h,qbx h.length o=o:=zjb
theorem qga{h r:H}(hc:calm h)(hr:∀o∈r,qbx (h.length+r.length) o=o):calm (h++r):=by
 rw[qod]at hc ⊢;intro o ho;rw[jF];rcases jQ.1 ho with ho | ho
 .exact q8t (Nat.le_add_right _ _) (hc o ho)
 .exact hr o ho
theorem q9x{h:H}(hc:calm h)(r:H):qkd h.length (h++r)=h:=by unfold qkd;rw[List.take_left];exact hc
theorem q5z{h:H}(hc:calm h)(r:H):quy h.length (h++r)=true:=by
 unfold quy;rw[List.take_left,jP];intro o ho;have h1:=qod.1 hc o ho;unfold qbx at h1;split<;>try rfl
 .rename_i cells hk;rw[hk]at h1;simp only at h1;have h2:=congrArg Ob.k h1;simp only[hk,K.box.injEq]at h2;exact qxh h2
theorem qog{h:H}(hc:calm h)(r:H):qgk h.length (h++r)=h:=by unfold qgk;rw[if_pos (q5z hc r),q9x hc]
theorem qef{h:H}(hc:calm h)(r:H):qde h.length (h++r)=h:=by unfold qde;rw[if_pos (q5z hc r),q9x hc]
theorem qqv{h:H}(hc:calm h):qgk h.length h=h:=by have:=qog hc [];rwa [List.append_nil]at this
theorem qfu{h:H}(hc:calm h):qde h.length h=h:=by have:=qef hc [];rwa [List.append_nil]at this
def qaq(s:List V):Prop:=∀v∈s,v ≠ .nils
theorem qap:∀{s:List V},qaq s->∀j,qah s j ≠ .nils
 | [],_,j=>by simp[qah]
 | v :: s,h,0=>h v (by simp)
 | v :: s,h,j+1=>qap (s:=s) (fun w hw=>h w (by simp[hw])) j
theorem qei:∀{s:List V} {k:Nat} {v:V},qaq s->v ≠ .nils->qaq (qet s k v)
 | [],_,_,h,_=>h
 | x :: s,0,v,h,hv=>fun w hw=>by
  rcases List.mem_cons.1 hw with rfl | hw
  .exact hv
  .exact h w (by simp[hw])
 | x :: s,k+1,v,h,hv=>fun w hw=>by
  rcases List.mem_cons.1 hw with rfl | hw
  .exact h w (by simp)
  .exact qei (s:=s) (k:=k) (fun u hu=>h u (by simp[hu])) hv w hw
@[simp] theorem qbn(n:Nat):∀(s:List V) (k:Nat),qah (s.map (qbf n)) k=qbf n (qah s k)
 | [],k=>by simp[qah]
 | v :: s,0=>rfl
 | v :: s,k+1=>by simp only[List.map_cons,qah];exact qbn n s k
theorem qqc{n:Nat}{s:List V}(h:qaq s):qaq (s.map (qbf n)):=by
 intro v hv;obtain⟨w,hw,rfl⟩:=List.mem_map.1 hv;have:=h w hw;unfold qbf;split
 .exact this
 .simp
@[simp] theorem z1q{p:Prop}[Decidable p]{v:V}:((if p then v else V.undef)=.nils)<->(p/\v=.nils):=by split<;>simp_all
theorem zha{P:Prg}{l:Nat}{args:List V}{h:H}{g:Nat}{sl:List V}{ps:List Nat}{a b:C}(hl:h[l]?=some ⟨g,.loop sl ps a b none⟩)(hn:args.length=ps.length){s1:List V}{h1:H}(e1:ev P (.code a ⟨qfr sl ps args,h⟩)=some { st:=⟨s1,h1⟩ }){g1:Nat}{sl1:List V}{ps1:List Nat}{a1 b1:C}(hl1:h1[l]?=some ⟨g1,.loop sl1 ps1 a1 b1 none⟩){r2:R}(e2:ev P (.code b ⟨s1,h1.set l ⟨g1,.loop sl1 ps1 a1 b1 (some .normal)⟩⟩)=some r2){g2:Nat}{sl2:List V}{ps2:List Nat}{as2 bd2:C}{p2:Option X}(h3:(qde h.length r2.st.h)[l]?=some ⟨g2,.loop sl2 ps2 as2 bd2 p2⟩):ev P (.call (.yld l) args h)=some { v:=.bool (decide (r2.x=.normal)),st:=⟨[],(qde h.length r2.st.h).set l ⟨g2,.loop sl2 ps2 as2 bd2 (if r2.x=.normal then none else some r2.x)⟩⟩ }:=by rw[qia];simp only[qci,hl,hn,if_true,e1,hl1,e2,h3];cases r2.x<;>rfl
theorem qfm{P:Prg}(f:A)(ps:List Nat)(a b:C)(st:St):ev P (.code (.range f ps a b) st)=(match f.ev (qdh st).s with
  | .fn fid first caps =>
   match ev P (.call (.fn fid first caps) [.yld (qdh st).h.length] ((qdh st).h++[⟨0,.loop (qdh st).s ps a b none⟩]))with
   | some r=>match r.st.h[(qdh st).h.length]? with
    | some ⟨g,.loop sl2 ps2 as2 bd2 p⟩ =>
     match p with
     | none=>some { st:=⟨(qdh st).s,qde (qdh st).h.length (r.st.h.set (qdh st).h.length ⟨g,.loop sl2 ps2 as2 bd2 (some .normal)⟩)⟩ }
     | some .normal=>none
     | some x=>some { x:=x,st:=⟨(qdh st).s,qde (qdh st).h.length (r.st.h.set (qdh st).h.length ⟨g,.loop sl2 ps2 as2 bd2 (some .normal)⟩)⟩ }
    | _=>none
   | none=>none
  | _=>none):=by rw[qia];rfl
section
variable{S:Type}(step:S->Nat->Ex->S)(run:S->Bool)
mutual
def qny(d:Nat):Ex->S->S
 | .mk o i l,s=>if run (step s d (.mk o i l))=true then qgj (d+1) l (step s d (.mk o i l))else step s d (.mk o i l)
def qgj(d:Nat):List Ex->S->S
 | [],s=>s
 | y :: r,s=>if run (qny d y s)=true then qgj d r (qny d y s)else qny d y s
end
theorem q3p(d:Nat)(x:Ex)(s:S):qny step run d x s=if run (step s d x)=true then qgj step run (d+1) x.args (step s d x)else step s d x:=by cases x;rw[qny];rfl
theorem zkt{d:Nat}{l:List Ex}{k:Nat}{s:S}(hk:k<l.length):qgj step run d (l.drop k) s=if run (qny step run d l[k] s)=true then qgj step run d (l.drop (k+1)) (qny step run d l[k] s)else qny step run d l[k] s:=by rw[jL hk,qgj]
structure Yld(l:Nat)(base:S->H):Prop where
 len:∀s,(base s).length=l+3
 g8:∀s,(base s)[l+1]?=some ⟨0,.box [.yld l]⟩
 g9:∀s,(base s)[l+2]?=some ⟨0,.box [.fn 230 [] [.bptr (l+1) 0,.bptr (l+2) 0]]⟩
 yld:∀s (d:Nat) y r,run s=true->d<=16->y.nodes<=256->(∀s,calm (base s++r))->ev pg (.call (.yld l) [num d,y.v] (base s++r))=some { v:=.bool (run (step s d y)),st:=⟨[],base (step s d y)++r⟩ }
variable{step run}
theorem z5z{h:H}{n:Nat}(hn:h.length=n)(a b:Ob):(h++[a,b])[n+1]?=some b:=by rw[jJ (by omega),hn,Nat.add_sub_cancel_left];rfl
theorem z2q{h:H}{n:Nat}(hn:h.length=n)(a:Ob):(h++[a])[n]?=some a:=by rw[jJ (by omega),hn,Nat.sub_self];rfl
theorem z1x{h:H}{n:Nat}(hn:h.length=n)(a b c:Ob):(h++[a,b]).set (n+1) c=h++[a,c]:=by rw[List.set_append_right _ _ (by omega),hn,Nat.add_sub_cancel_left];rfl
theorem qgz{h:H}{k:Nat}{o:Ob}(r:H)(hk:h[k]?=some o):(h++r)[k]?=some o:=by rw[jI (jG.1 hk).1];exact hk
structure Keep202(l:Nat)(x:Ex)(d k:Nat)(st:List V):Prop where
 nn:qaq st
 len:st.length=32
 t1:qah st 1=num d
 t3:qah st 3=.bptr (l+2) 0
 t15:qah st 15=.imm (x.args.map Ex.row)
 t16:qah st 16=num x.args.length
 t17:qah st 17=num k
def z5g(l:Nat)(step:S->Nat->Ex->S)(run:S->Bool)(base:S->H)(x:Ex)(d:Nat)(r:H)(s1:S)(k:Nat)(st:St):Prop:=∃s,run s=true/\st.h=base s++(r++[⟨0,.box x.cells⟩])/\Keep202 l x d k st.s/\qgj step run (d+1) x.args s1=qgj step run (d+1) (x.args.drop k) s
def z0u(step:S->Nat->Ex->S)(run:S->Bool)(base:S->H)(x:Ex)(d:Nat)(r:H)(s1:S)(q:Am.R):Prop:=q.st.s.length=32/\∃z,q.st.h=base (qgj step run (d+1) x.args s1)++(r++z)/\((q.x=.exit 0/\run (qgj step run (d+1) x.args s1)=true)\/(q.x=.ret/\qah q.st.s 6=.bool false/\run (qgj step run (d+1) x.args s1)=false))
theorem ztt{l:Nat}{base:S->H}(hY:Yld step run l base)(x:Ex)(d:Nat)(hd:d+x.depth<=17)(hx:x.nodes<=256)(r:H)(hr:∀s,calm (base s++r))
  (ih:∀y∈x.args,∀(d:Nat) (s:S) (r:H),run s=true->d+y.depth<=17->y.nodes<=256->(∀s,calm (base s++r))->ev pg (.call (.fn 230 [] [.bptr (l+1) 0,.bptr (l+2) 0]) [y.v,num d] (base s++r))=some { v:=.bool (run (qny step run d y s)),st:=⟨[],base (qny step run d y s)++r⟩ })
  (s1:S) (n:Nat) (hn:n=l+3+(r.length+1)) (st:St) (h0:z5g l step run base x d r s1 0 st):∃q,ev pg (.code (.going n L230_0) st)=some q/\z0u step run base x d r s1 q:=by
 have hfew:=qfk hx;have hrx:∀s,calm (base s++(r++[⟨0,.box x.cells⟩])):=fun s=>by rw[<-List.append_assoc];exact qga (hr s) (by simp)
 refine qat (z5g l step run base x d r s1) x.args.length (z0u step run base x d r s1) h0 ?_ ?_
 .rintro k ⟨sl,h⟩ hk ⟨s,hrun,rfl,⟨hnn,hl,e1,e3,e15,e16,e17⟩,hw⟩;simp only at hl e1 e3 e15 e16 e17;have hnl:∀j,qah sl j ≠ .nils:=qap hnn;have hk':(k:Int)<x.args.length:=by omega
  have wk:=qbc k;have hmem:=jH hk;have hyd:x.args[k].depth+1<=x.depth:=by have h1:=qqx x;have h2:=qwh.1 (jD (qgv x.args)) _ hmem;omega
  have hyp:=qkn x.args[k];have hd16:(d:Int)<=16:=by omega
  have wd:=qbc d;have hry:∀s,calm (base s++(r++[⟨0,.box x.cells⟩,⟨0,.arr 0 []⟩,⟨0,.box x.args[k].cells⟩])):=fun s=>by
   have e:base s++(r++[⟨0,.box x.cells⟩,⟨0,.arr 0 []⟩,⟨0,.box x.args[k].cells⟩])=(base s++(r++[⟨0,.box x.cells⟩]))++[⟨0,.arr 0 []⟩,⟨0,.box x.args[k].cells⟩]:=by simp
   rw[e];exact qga (hrx s) (by simp[qbx])
  have hc:=ih x.args[k] hmem (d+1) s _ hrun (by omega) (qey hx hmem) hry;have e0:∀s,base s++(r++[⟨0,.box x.cells⟩,⟨0,.arr 0 []⟩,⟨0,.box x.args[k].cells⟩])=(base s++(r++[⟨0,.box x.cells⟩]))++[⟨0,.arr 0 []⟩,⟨0,.box x.args[k].cells⟩]:=fun s=>by simp
  rw[e0,e0]at hc;rw[zkt step run hk]at hw;generalize hs2:qny step run (d+1) x.args[k] s=s2 at *;have hl0:(base s++(r++[⟨0,.box x.cells⟩]):H).length=n:=by simp[hY.len,hn]
  have hl2:(base s2++(r++[⟨0,.box x.cells⟩]):H).length=n:=by simp[hY.len,hn]
  have g9:=qgz (r++[⟨0,.box x.cells⟩]) (hY.g9 s);have hc0:=hrx s;have hc2:=hrx s2;have hfin:base s2++(r++[⟨0,.box x.cells⟩,⟨0,.arr 0 []⟩,⟨0,.box x.args[k].cells⟩])=(base s2++(r++[⟨0,.box x.cells⟩]))++[⟨0,.arr 0 []⟩,⟨0,.box x.args[k].cells⟩]:=e0 s2;have hcut:=qog hc2;rw[hl2]at hcut;generalize hG:base s++(r++[⟨0,.box x.cells⟩])=G at *;generalize hG2:base s2++(r++[⟨0,.box x.cells⟩])=G2 at *;have g9':∀z,(G++z)[l+2]?=some ⟨0,.box [.fn 230 [] [.bptr (l+1) 0,.bptr (l+2) 0]]⟩:=fun z=>qgz z g9;have t1:=z1x hl0;simp at hc;rw[qac hl];by_cases hb:run s2=true
  .rw[hb]at hc;rw[if_pos hb]at hw;simp[-qgk,L230_0,List.range,List.range.loop,e1,e3,e15,e16,e17,hk,hk',hd16,wd,wk,hl0,t1,g9',hc,hcut];have h9:l+2<n:=by omega
   exact⟨s2,hb,hG2.symm,⟨by simp[qaq,hnl],rfl,rfl,by simp[h9],rfl,rfl,rfl⟩,hw⟩
  .have hb':run s2=false:=by simpa using hb
   rw[hb']at hc;rw[if_neg hb]at hw;simp[-qgk,L230_0,List.range,List.range.loop,e1,e3,e15,e16,e17,hk,hk',hd16,wd,hl0,t1,g9',hc];refine⟨rfl,[⟨0,.box x.cells⟩,⟨0,.arr 0 []⟩,⟨0,.box x.args[k].cells⟩],?_,.inr ⟨rfl,rfl,by rw[hw];exact hb'⟩⟩;rw[hw,hfin]
 .rintro⟨sl,h⟩ ⟨s,hrun,rfl,⟨hnn,hl,e1,e3,e15,e16,e17⟩,hw⟩;simp only[List.drop_length]at hl e1 e3 e15 e16 e17 hw;rw[qgj]at hw;rw[qac hl];simp[L230_0,z0u,List.range,List.range.loop,e1,e3,e15,e16,e17,hw,hrun]
theorem ev230{l:Nat}{base:S->H}(hY:Yld step run l base):∀(x:Ex) (d:Nat) (s:S) (r:H),run s=true->d+x.depth<=17->x.nodes<=256->(∀s,calm (base s++r))->ev pg (.call (.fn 230 [] [.bptr (l+1) 0,.bptr (l+2) 0]) [x.v,num d] (base s++r))=some { v:=.bool (run (qny step run d x s)),st:=⟨[],base (qny step run d x s)++r⟩ }:=by
 refine Ex.ind fun x ih d s r hrun hd hx hr=>?_;have hp:=qkn x;have hrx:∀s,calm (base s++(r++[⟨0,.box x.cells⟩])):=fun s=>by rw[<-List.append_assoc];exact qga (hr s) (by simp)
 have hy:=hY.yld s d x (r++[⟨0,.box x.cells⟩]) hrun (by omega) hx hrx;have hloop:=ztt hY x d hd hx r hr ih (step s d x) (l+3+(r.length+1)) rfl;rw[q3p];generalize hs1:step s d x=s1 at *;have hl0:(base s++r:H).length=l+3+r.length:=by simp[hY.len]
 have g8:=qgz r (hY.g8 s);have gx:=z2q (h:=base s++r) hl0 ⟨0,.box x.cells⟩;have e0:∀s,base s++(r++[⟨0,.box x.cells⟩])=(base s++r)++[⟨0,.box x.cells⟩]:=fun s=>by simp
 have hcut:∀s z,qde (l+3+r.length) (base s++(r++z))=base s++r:=fun s z=>by have:=qef (hr s) z;rw[List.append_assoc]at this;rw[show(base s++r:H).length=l+3+r.length by simp[hY.len]]at this;exact this
 rw[e0]at hy;rw[qaa,pg230.1];have g8':=qgz [⟨0,.box x.cells⟩] g8;rw[List.append_assoc]at g8' gx;rw[<-e0]at hy;by_cases hb:run s1=true
 .rw[hb]at hy;simp[-qde,ir230,hY.len,g8',hy,qai];generalize hq:ev pg (.code (.going _ L230_0) _)=o;obtain⟨q,rfl,hl,z,hh,hQ⟩:∃q,o=some q/\z0u step run base x d r s1 q:=by
   rw[<-hq];refine hloop _ ⟨s1,hb,rfl,⟨?_,?_,?_,?_,?_,?_,?_⟩,rfl⟩
   all_goals simp[qaq]
  rcases hQ with⟨hx,hw⟩ | ⟨hx,h6,hw⟩
  .simp[-qde,hx,hh,hl,hw,hb,hcut]
  .simp[-qde,hx,hh,h6,hw,hb,hcut]
 .have hb':run s1=false:=by simpa using hb
  rw[hb']at hy;simp[-qde,ir230,hY.len,g8',hy,hb',hcut]
end
section
variable{S:Type}{step:S->Nat->Ex->S}{run:S->Bool}
abbrev qdt(l:Nat):H:=[⟨0,.box [.yld l]⟩,⟨0,.box [.fn 230 [] [.bptr (l+1) 0,.bptr (l+2) 0]]⟩]
theorem ev229{l:Nat}{b7:S->H}(hY:Yld step run l (fun s=>b7 s++qdt l))(hlen:∀s,(b7 s).length=l+1)(hc:∀s,calm (b7 s))(x:Ex)(k:Nat)(hk:∀s,(b7 s)[k]?=some ⟨0,.box x.cells⟩)(hx:x.light=true)(s:S)(hrun:run s=true):ev pg (.call (.fn 229 [] [.bptr k 0]) [.yld l] (b7 s))=some { v:=.tup [],st:=⟨[],b7 (qny step run 1 x s)⟩ }:=by
 obtain⟨h1,h2⟩:=qdq hx;have hcb:∀s,calm ((b7 s++qdt l)++[]):=fun s=>by rw[List.append_nil];exact qga (hc s) (by simp[hlen];omega)
 have hv:=ev230 hY x 1 s [] hrun (by omega) h1 hcb;simp only[List.append_nil]at hv;generalize qny step run 1 x s=s2 at *;have t1:=z1x (hlen s);have gk:∀z,(b7 s++z)[k]?=some ⟨0,.box x.cells⟩:=fun z=>qgz z (hk s);have hcut:∀z,qde (l+1) (b7 s2++z)=b7 s2:=fun z=>by have:=qef (hc s2) z;rwa [hlen]at this
 rw[qaa,pg229.1];simp at hv;simp[-qde,ir229,hlen,t1,gk,hv,hcut]
end
abbrev qzf(x:Ex):List V:=[x.v,.bptr 0 0,.bptr 1 0,.bptr 2 0,.bptr 3 0,.bptr 4 0,.bptr 5 0,.undef,x.v,.fn 229 [] [.bptr 6 0],.undef,.undef,.undef,.undef,.undef,.undef,.undef,.undef,.undef,.undef,.undef,.undef,.undef,.undef,.undef]
def m7(x:Ex)(s:Nat×Nat):H:=[⟨0,.box x.cells⟩,⟨0,.box [num 0]⟩,⟨0,.box [num 0]⟩,⟨0,.box [.bool false]⟩,⟨0,.box [num s.1]⟩,⟨0,.box [num s.2]⟩,⟨0,.box x.cells⟩,⟨0,.loop (qzf x) [10,11] L199_0 L199_1 (if s.1<=256 then none else some .ret)⟩]
def qfs(s:Nat×Nat)(d:Nat)(_:Ex):Nat×Nat:=(s.1+1,max s.2 d)
def qpn(s:Nat×Nat):Bool:=decide (s.1<=256)
theorem q4k{h:H}{k g:Nat}{sl:List V}{ps:List Nat}{a b:C}{p:Option X}(hc:calm h)(hk:h[k]?=some ⟨g,.loop sl ps a b p⟩)(p':Option X):calm (h.set k ⟨g,.loop sl ps a b p'⟩):=by
 rw[qod]at hc ⊢;have h1:=hc _ (jR hk);intro o ho;rw[jU];rcases jT ho with ho | rfl
 .exact hc o ho
 .simp only[qbx,Ob.mk.injEq,K.loop.injEq,and_true,true_and]at h1 ⊢;exact h1
theorem z0h(x:Ex):Yld qfs qpn 7 (fun s=>m7 x s++qdt 7):=by
 refine⟨fun s=>rfl,fun s=>rfl,fun s=>rfl,fun s d y r hrun hd hy hr=>?_⟩;have h256:s.1<=256:=by simpa[qpn]using hrun
 have e1:ev pg (.code L199_0 ⟨qfr (qzf x) [10,11] [num d,y.v],(m7 x s++qdt 7)++r⟩)=some { st:=⟨qet (qet (qet (qzf x) 10 (num d)) 11 y.v) 7 (num d),(m7 x s++qdt 7)++r⟩ }:=by simp[L199_0]
 have wa:=qam (n:=(s.1:Int)+1) (by omega) (by omega);have hd':¬((16:Int)<(d:Int)):=by omega
 have e2:∃S2,ev pg (.code L199_1 ⟨qet (qet (qet (qzf x) 10 (num d)) 11 y.v) 7 (num d),((m7 x s++qdt 7)++r).set 7 ⟨0,.loop (qzf x) [10,11] L199_0 L199_1 (some .normal)⟩⟩)=some { x:=if s.1+1<=256 then .normal else .ret,st:=⟨S2,((m7 x (qfs s d y)++qdt 7)++r).set 7 ⟨0,.loop (qzf x) [10,11] L199_0 L199_1 (some .normal)⟩⟩ }:=by
  by_cases h:s.1+1<=256
  .have h':¬((256:Int)<(s.1:Int)+1):=by omega
   simp[m7,L199_1,qfs,wa,h,h',hd'];split<;>omega
  .have h':(256:Int)<(s.1:Int)+1:=by omega
   simp[m7,L199_1,qfs,wa,h,h'];split<;>omega
 obtain⟨S2,e2⟩:=e2;have hr2:=hr (qfs s d y);have hcl:=q4k hr2 (k:=7) (g:=0) (sl:=qzf x) (ps:=[10,11]) (a:=L199_0) (b:=L199_1) (p:=if(qfs s d y).1<=256 then none else some .ret) rfl (some .normal);have hck:=qfu hcl;rw[jU]at hck;have hlen:((m7 x s++qdt 7)++r:H).length=((m7 x (qfs s d y)++qdt 7)++r:H).length:=rfl;rw[<-hlen]at hck;have hy2:=zha (P:=pg) (l:=7) (args:=[num d,y.v]) (h:=(m7 x s++qdt 7)++r) (g:=0) (sl:=qzf x) (ps:=[10,11]) (a:=L199_0) (b:=L199_1) (by simp[m7,h256]) rfl e1 (g1:=0) (sl1:=qzf x) (ps1:=[10,11]) (a1:=L199_0) (b1:=L199_1) (by simp[m7,h256]) e2 (g2:=0) (sl2:=qzf x) (ps2:=[10,11]) (as2:=L199_0) (bd2:=L199_1) (p2:=some .normal) (by
  rw[hck];rfl)
 rw[hck]at hy2;rw[hy2];by_cases h:s.1+1<=256
 .simp[qpn,qfs,h,m7]
 .simp[qpn,qfs,h,m7]
theorem zvo:∀(x:Ex) (d:Nat) (s:Nat×Nat),s.1+x.nodes<=256->qny qfs qpn d x s=(s.1+x.nodes,max s.2 (d+x.depth-1)):=by
 refine Ex.ind fun x ih d s hs=>?_;have hn:=qoq x;have hd:=qqx x;have hl:∀(l:List Ex) (s:Nat×Nat),(∀y∈l,y∈x.args)->d<=s.2->s.1+qdj l<=256->qgj qfs qpn (d+1) l s=(s.1+qdj l,max s.2 (d+qgv l)):=by
  intro l;induction l with
  | nil =>
   intro s _ hds h;have e:max s.2 d=s.2:=by omega
   simp[qgj,qdj,qgv,e]
  | cons y l ihl =>
   intro s hsub hds h;rw[qdj]at h;rw[qgj,ih y (hsub y (by simp)) (d+1) s (by omega)];have hrun:qpn (s.1+y.nodes,max s.2 (d+1+y.depth-1))=true:=by simp[qpn];omega
   rw[if_pos hrun,ihl _ (fun z hz=>hsub z (by simp[hz])) (by simp only;omega) (by simp only;omega)];have hyp:=qkn y;rw[qdj,qgv];simp only[Prod.mk.injEq];omega
 rw[q3p];have hrun:qpn (qfs s d x)=true:=by have:=qxm x;simp[qpn,qfs];omega
 rw[if_pos hrun,hl x.args _ (fun y hy=>hy) (by simp only[qfs];omega) (by simp only[qfs];omega),hn,hd];simp only[qfs,Prod.mk.injEq];omega
theorem ev200(x:Ex)(h:H):ev pg (.call (fnq 200) [x.v] h)=some { v:=.fn 229 [] [.bptr h.length 0],st:=⟨[],h++[⟨0,.box x.cells⟩]⟩ }:=by rw[qaa,pg200.1];simp[ir200]
theorem ev199(x:Ex)(hx:x.light=true):ev pg (.call (fnq 199) [x.v] [])=some (rvq (.tup [num x.nodes,num x.depth,.bool true])):=by
 obtain⟨h1,h2⟩:=qdq hx;have hd:=qkn x;have h187:=ev200 x;have h201:=ev229 (z0h x) (fun _=>rfl) (fun s=>by simp[calm,m7,qbx]) x 6 (fun _=>rfl) hx (0,0) rfl;rw[zvo x 1 (0,0) (by simp only;omega)]at h201;have hm:max 0 (1+x.depth-1)=x.depth:=by omega
 rw[hm]at h201;simp[m7,h1]at h201;rw[qaa,pg199.1];simp[ir199,h187,qfm,h201,qab,exT,qag]
abbrev qnt(x:Ex)(n:Int):List V:=[x.v,num n,.bptr 0 0,.bptr 1 0,.bptr 2 0,num x.nodes,num x.depth,.bool true,.undef,.undef,.undef,num n,.bool false,.bool false,num n,.bool false,.bool false,.tup [num x.nodes,num x.depth,.bool true],x.v,.tup [num x.nodes,num x.depth,.bool true],num x.nodes,num x.depth,.bool true,.bool true,.bool false,x.v,.fn 229 [] [.bptr 3 0],.undef,.undef,.undef,.undef,.undef,.undef,.undef,.undef]
def m4(x:Ex)(n:Int)(e:Int):H:=[⟨0,.box x.cells⟩,⟨0,.box [num n]⟩,⟨0,.box [num e]⟩,⟨0,.box x.cells⟩,⟨0,.loop (qnt x n) [27,28] L163_0 L163_1 (if e=0 then none else some .ret)⟩]
def qic(n:Int)(_:Int)(_:Nat)(y:Ex):Int:=qbq y.op y.idx y.args.length n
def qnk(e:Int):Bool:=decide (e=0)
abbrev z5v(y:Ex):H:=[⟨0,.arr 0 []⟩,⟨0,.box y.cells⟩]
theorem z0g(x:Ex)(n:Int)(hn:0<=n/\n<=256):Yld (qic n) qnk 4 (fun e=>m4 x n e++qdt 4):=by
 refine⟨fun s=>rfl,fun s=>rfl,fun s=>rfl,fun s d y r hrun hd hy hr=>?_⟩;obtain rfl:s=0:=by simpa[qnk]using hrun
 have h188:=ev201 y n hy hn;have e1:∃S1,qah S1 3=.bptr 1 0/\qah S1 4=.bptr 2 0/\qah S1 9=.bptr (7+r.length+1) 0/\S1.length=35/\ev pg (.code L163_0 ⟨qfr (qnt x n) [27,28] [num d,y.v],(m4 x n 0++qdt 4)++r⟩)=some { st:=⟨S1,((m4 x n 0++qdt 4)++r)++[⟨0,.arr 0 []⟩,⟨0,.box y.cells⟩]⟩ }:=by
  have hl0:((m4 x n 0++qdt 4)++r:H).length=7+r.length:=by simp[m4];omega
  generalize (m4 x n 0++qdt 4)++r=G at *;have t1:=z1x hl0;simp[L163_0,hl0,t1];exact⟨_,rfl,rfl,rfl,rfl,rfl⟩
 obtain⟨S1,g3,g4,g9,hl,e1⟩:=e1;have e2:∃S2,ev pg (.code L163_1 ⟨S1,(((m4 x n 0++qdt 4)++r)++z5v y).set 4 ⟨0,.loop (qnt x n) [27,28] L163_0 L163_1 (some .normal)⟩⟩)=some { x:=if qbq y.op y.idx y.args.length n=0 then .normal else .ret,st:=⟨S2,(((m4 x n (qbq y.op y.idx y.args.length n)++qdt 4)++r).set 4 ⟨0,.loop (qnt x n) [27,28] L163_0 L163_1 (some .normal)⟩)++z5v y⟩ }:=by
  generalize qbq y.op y.idx y.args.length n=e at *;have k1:(((m4 x n 0++qdt 4)++r).set 4 ⟨0,.loop (qnt x n) [27,28] L163_0 L163_1 (some .normal)⟩)[1]?=some ⟨0,.box [num n]⟩:=rfl;have k2:(((m4 x n 0++qdt 4)++r).set 4 ⟨0,.loop (qnt x n) [27,28] L163_0 L163_1 (some .normal)⟩)[2]?=some ⟨0,.box [num 0]⟩:=rfl;have hl0:(((m4 x n 0++qdt 4)++r).set 4 ⟨0,.loop (qnt x n) [27,28] L163_0 L163_1 (some .normal)⟩:H).length=7+r.length:=by simp[m4];omega
  have s2:∀z,((((m4 x n 0++qdt 4)++r).set 4 ⟨0,.loop (qnt x n) [27,28] L163_0 L163_1 (some .normal)⟩)++z).set 2 ⟨0,.box [num e]⟩=((m4 x n e++qdt 4)++r).set 4 ⟨0,.loop (qnt x n) [27,28] L163_0 L163_1 (some .normal)⟩++z:=fun z=>rfl;have h0:e=0->((m4 x n 0++qdt 4)++r).set 4 ⟨0,.loop (qnt x n) [27,28] L163_0 L163_1 (some .normal)⟩=((m4 x n e++qdt 4)++r).set 4 ⟨0,.loop (qnt x n) [27,28] L163_0 L163_1 (some .normal)⟩:=fun h=>by rw[h]
  rw[List.set_append_left _ _ (by simp[m4])];generalize ((m4 x n 0++qdt 4)++r).set 4 ⟨0,.loop (qnt x n) [27,28] L163_0 L163_1 (some .normal)⟩=G at *;generalize ((m4 x n e++qdt 4)++r).set 4 ⟨0,.loop (qnt x n) [27,28] L163_0 L163_1 (some .normal)⟩=G2 at *;have a1:=z5z hl0;have k1':=fun z=>qgz z k1;have k2':=fun z=>qgz z k2;rw[qac hl];by_cases he:e=0
  .rw[h0 he]at *;simp[-getElem?_pos,L163_1,List.range,List.range.loop,g3,g4,g9,a1,k1',h188,he]
  .simp[-getElem?_pos,L163_1,List.range,List.range.loop,g3,g4,g9,a1,k1',k2',s2,h188,he]
 obtain⟨S2,e2⟩:=e2;have hr2:=hr (qic n 0 d y);have hcl:=q4k hr2 (k:=4) (g:=0) (sl:=qnt x n) (ps:=[27,28]) (a:=L163_0) (b:=L163_1) (p:=if qic n 0 d y=0 then none else some .ret) rfl (some .normal);have hck:=qef hcl [⟨0,.arr 0 []⟩,⟨0,.box y.cells⟩];rw[jU]at hck;have hlen:((m4 x n 0++qdt 4)++r:H).length=((m4 x n (qic n 0 d y)++qdt 4)++r:H).length:=rfl;rw[<-hlen]at hck;have hy2:=zha (P:=pg) (l:=4) (args:=[num d,y.v]) (h:=(m4 x n 0++qdt 4)++r) (g:=0) (sl:=qnt x n) (ps:=[27,28]) (a:=L163_0) (b:=L163_1) (by simp[m4]) rfl e1 (g1:=0) (sl1:=qnt x n) (ps1:=[27,28]) (a1:=L163_0) (b1:=L163_1) (by simp[m4]) e2 (g2:=0) (sl2:=qnt x n) (ps2:=[27,28]) (as2:=L163_0) (bd2:=L163_1) (p2:=some .normal) (by
  show(qde _ (((m4 x n (qic n 0 d y)++qdt 4)++r).set 4 _++_))[4]?=_;rw[hck];rfl)
 rw[hy2];show some ({ v:=_,st:=⟨[],(qde _ (((m4 x n (qic n 0 d y)++qdt 4)++r).set 4 _++_)).set 4 _⟩ }:Am.R)=_;rw[hck];by_cases h:qbq y.op y.idx y.args.length n=0
 .simp[qnk,qic,h,m4]
 .simp[qnk,qic,h,m4]
theorem zvn(n:Int):∀(x:Ex) (d:Nat) (e:Int),qny (qic n) qnk d x e=x.err n:=by
 refine Ex.ind fun x ih d e=>?_;rw[q3p,zae];have hl:∀(l:List Ex),(∀y∈l,y∈x.args)->qgj (qic n) qnk (d+1) l 0=q4q n l:=by
  intro l;induction l with
  | nil=>intro _;simp[qgj,q4q]
  | cons y l ihl =>
   intro hsub;rw[qgj,ih y (hsub y (by simp)),q4q];by_cases h:y.err n=0
   .rw[h,if_pos (by rfl),if_pos rfl];exact ihl fun z hz=>hsub z (by simp[hz])
   .rw[if_neg (by simp[qnk,h]),if_neg h]
 show(if qnk (qbq x.op x.idx x.args.length n)=true then qgj (qic n) qnk (d+1) x.args (qbq x.op x.idx x.args.length n)else qbq x.op x.idx x.args.length n)=_;by_cases h:qbq x.op x.idx x.args.length n=0
 .rw[h,if_pos rfl];show qgj (qic n) qnk (d+1) x.args 0=_;exact hl x.args fun y hy=>hy
 .rw[if_neg (by simp[qnk,h]),if_neg h]
theorem ev163(x:Ex)(n:Int)(hx:x.light=true):ev pg (.call (fnq 163) [x.v,num n] [])=some (rvq (num (x.check n))):=by
 have znm:=ev199 x hx;have h187:=ev200 x;rw[qaa,pg163.1];by_cases h1:n<0
 .simp[ir163,Ex.check,h1]
 .by_cases h2:256<n
  .simp[ir163,Ex.check,h1,h2]
  .have h201:=ev229 (z0g x n ⟨by omega,by omega⟩) (fun _=>rfl) (fun s=>by simp[calm,m4,qbx]) x 3 (fun _=>rfl) hx 0 rfl;rw[zvn]at h201;have hc:x.check n=x.err n:=by simp[Ex.check,h1,h2,hx]
   rw[hc];generalize x.err n=e at *;by_cases he:e=0
   .subst he;simp[m4]at h201;simp[ir163,h1,h2,znm,h187,qfm,h201]
   .simp[m4,he]at h201;simp[ir163,h1,h2,znm,h187,qfm,h201]
end Go.Proofs.YtggbaapfbgjaeaaGreatDoor
