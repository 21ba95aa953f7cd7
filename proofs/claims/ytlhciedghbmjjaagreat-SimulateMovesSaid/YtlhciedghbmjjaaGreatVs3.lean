/- Memory in which nothing above is held: what is cut off above it leaves it as it is. The nodes of an expression, one after the other, by the program. All nodes of an expression; how many, and how deep; the errors of an expression, by the program. The errors of an expression, by the program. -/
import Derived.Test.YtlhciedghbmjjaaGreatEx3
import Derived.Test.YtlhciedghbmjjaaGreatEn2
set_option linter.all false
namespace Go.Proofs.YtlhciedghbmjjaaGreat
open Go Go.Am Go.Proofs
set_option maxRecDepth 100000
def qck(h:H):Prop:=h.map (qbg h.length)=h
theorem zaq{n:Nat}{v:V}(h:qcz n v=v):v.low n=true:=by
 unfold qcz at h
 split at h
 .assumption
 .rw[<-h];rfl
theorem qzf{n:Nat}:∀{l:List V},l.map (qcz n)=l->qfm n l=true
 | [],_=>rfl
 | v :: l,h=>by
  simp only[List.map_cons,List.cons.injEq]at h
  simp only[qfm,zaq h.1,qzf h.2,Bool.and_self]
theorem qun{m n:Nat}(hmn:m<=n){o:Ob}(h:qbg m o=o):qbg n o=o:=by
 unfold qbg at h ⊢
 split<;>rename_i hk<;>simp only[hk]at h ⊢
 .rename_i cells
  have h2:=congrArg Ob.k h
  simp only[hk,K.box.injEq]at h2
  rw[qjh (qdi hmn _ (qzf h2))]
  rw[<-hk]
 .rename_i sl ps a b p
  have h2:=congrArg Ob.k h
  simp only[hk,K.loop.injEq,and_true]at h2
  rw[qjh (qdi hmn _ (qzf h2))]
  rw[<-hk]
theorem zet{h:H}{f:Ob->Ob}:(h.map f=h)<->∀o∈h,f o=o:=by
 induction h with
 | nil=>simp
 | cons o h ih=>simp[ih]
theorem qgk{h:H}:qck h<->∀o∈h,qbg h.length o=o:=zet
theorem qcl{h r:H}(hc:qck h)(hr:∀o∈r,qbg (h.length+r.length) o=o):qck (h++r):=by
 rw[qgk]at hc ⊢
 intro o ho
 rw[jF]
 rcases jQ.1 ho with ho | ho
 .exact qun (Nat.le_add_right _ _) (hc o ho)
 .exact hr o ho
theorem q7o{h:H}(hc:qck h)(r:H):qkn h.length (h++r)=h:=by
 unfold qkn
 rw[List.take_left]
 exact hc
theorem q1u{h:H}(hc:qck h)(r:H):q4f h.length (h++r)=true:=by
 unfold q4f
 rw[List.take_left,jP]
 intro o ho
 have h1:=qgk.1 hc o ho
 unfold qbg at h1
 split<;>try rfl
 rename_i cells hk
 rw[hk]at h1
 simp only at h1
 have h2:=congrArg Ob.k h1
 simp only[hk,K.box.injEq]at h2
 exact qzf h2
theorem qyu{h:H}(hc:qck h)(r:H):qav h.length (h++r)=h:=by
 unfold qav
 rw[if_pos (q1u hc r),q7o hc]
theorem qdd{h:H}(hc:qck h)(r:H):qaq h.length (h++r)=h:=by
 unfold qaq
 rw[if_pos (q1u hc r),q7o hc]
theorem qej{h:H}(hc:qck h):qav h.length h=h:=by
 have:=qyu hc []
 rwa [List.append_nil]at this
theorem qeb{h:H}(hc:qck h):qaq h.length h=h:=by
 have:=qdd hc []
 rwa [List.append_nil]at this
def qdv(s:List V):Prop:=∀v∈s,v ≠ .nils
theorem qcp:∀{s:List V},qdv s->∀j,qat s j ≠ .nils
 | [],_,j=>by simp[qat]
 | v :: s,h,0=>h v (by simp)
 | v :: s,h,j+1=>qcp (s:=s) (fun w hw=>h w (by simp[hw])) j
theorem qew:∀{s:List V} {k:Nat} {v:V},qdv s->v ≠ .nils->qdv (qhc s k v)
 | [],_,_,h,_=>h
 | x :: s,0,v,h,hv=>fun w hw=>by
  rcases List.mem_cons.1 hw with rfl | hw
  .exact hv
  .exact h w (by simp[hw])
 | x :: s,k+1,v,h,hv=>fun w hw=>by
  rcases List.mem_cons.1 hw with rfl | hw
  .exact h w (by simp)
  .exact qew (s:=s) (k:=k) (fun u hu=>h u (by simp[hu])) hv w hw
@[simp] theorem q9e(n:Nat):∀(s:List V) (k:Nat),qat (s.map (qcz n)) k=qcz n (qat s k)
 | [],k=>by simp[qat]
 | v :: s,0=>rfl
 | v :: s,k+1=>by simp only[List.map_cons,qat];exact q9e n s k
theorem q3w{n:Nat}{s:List V}(h:qdv s):qdv (s.map (qcz n)):=by
 intro v hv
 obtain⟨w,hw,rfl⟩:=List.mem_map.1 hv
 have:=h w hw
 unfold qcz
 split
 .exact this
 .simp
@[simp] theorem z6u{p:Prop}[Decidable p]{v:V}:((if p then v else V.undef)=.nils)<->(p/\v=.nils):=by
 split<;>simp_all
theorem zeo{P:Prg}{l:Nat}{args:List V}{h:H}{g:Nat}{sl:List V}{ps:List Nat}{a b:C}(hl:h[l]?=some ⟨g,.loop sl ps a b none⟩)(hn:args.length=ps.length){s1:List V}{h1:H}(e1:ev P (.code a ⟨qfl sl ps args,h⟩)=some { st:=⟨s1,h1⟩ }){g1:Nat}{sl1:List V}{ps1:List Nat}{a1 b1:C}(hl1:h1[l]?=some ⟨g1,.loop sl1 ps1 a1 b1 none⟩){r2:R}(e2:ev P (.code b ⟨s1,h1.set l ⟨g1,.loop sl1 ps1 a1 b1 (some .normal)⟩⟩)=some r2){g2:Nat}{sl2:List V}{ps2:List Nat}{as2 bd2:C}{p2:Option X}(h3:(qaq h.length r2.st.h)[l]?=some ⟨g2,.loop sl2 ps2 as2 bd2 p2⟩):ev P (.call (.yld l) args h)=some { v:=.bool (decide (r2.x=.normal)),st:=⟨[],(qaq h.length r2.st.h).set l ⟨g2,.loop sl2 ps2 as2 bd2 (if r2.x=.normal then none else some r2.x)⟩⟩ }:=by
 rw[qki]
 simp only[qcj,hl,hn,if_true,e1,hl1,e2,h3]
 cases r2.x<;>rfl
theorem qhh{P:Prg}(f:A)(ps:List Nat)(a b:C)(st:St):ev P (.code (.range f ps a b) st)=(match f.ev (qdr st).s with
  | .fn fid first caps =>
   match ev P (.call (.fn fid first caps) [.yld (qdr st).h.length] ((qdr st).h++[⟨0,.loop (qdr st).s ps a b none⟩]))with
   | some r=>match r.st.h[(qdr st).h.length]? with
    | some ⟨g,.loop sl2 ps2 as2 bd2 p⟩ =>
     match p with
     | none=>some { st:=⟨(qdr st).s,qaq (qdr st).h.length (r.st.h.set (qdr st).h.length ⟨g,.loop sl2 ps2 as2 bd2 (some .normal)⟩)⟩ }
     | some .normal=>none
     | some x=>some { x:=x,st:=⟨(qdr st).s,qaq (qdr st).h.length (r.st.h.set (qdr st).h.length ⟨g,.loop sl2 ps2 as2 bd2 (some .normal)⟩)⟩ }
    | _=>none
   | none=>none
  | _=>none):=by rw[qki];rfl
section
variable{S:Type}(step:S->Nat->Ex->S)(run:S->Bool)
mutual
def qld(d:Nat):Ex->S->S
 | .mk o i l,s=>if run (step s d (.mk o i l))=true then qfo (d+1) l (step s d (.mk o i l))else step s d (.mk o i l)
def qfo(d:Nat):List Ex->S->S
 | [],s=>s
 | y :: r,s=>if run (qld d y s)=true then qfo d r (qld d y s)else qld d y s
end
theorem qyl(d:Nat)(x:Ex)(s:S):qld step run d x s=if run (step s d x)=true then qfo step run (d+1) x.args (step s d x)else step s d x:=by
 cases x;rw[qld];rfl
theorem zdb{d:Nat}{l:List Ex}{k:Nat}{s:S}(hk:k<l.length):qfo step run d (l.drop k) s=if run (qld step run d l[k] s)=true then qfo step run d (l.drop (k+1)) (qld step run d l[k] s)else qld step run d l[k] s:=by
 rw[jL hk,qfo]
structure Yld(l:Nat)(base:S->H):Prop where
 len:∀s,(base s).length=l+3
 g8:∀s,(base s)[l+1]?=some ⟨0,.box [.yld l]⟩
 g9:∀s,(base s)[l+2]?=some ⟨0,.box [.fn 186 [] [.bptr (l+1) 0,.bptr (l+2) 0]]⟩
 yld:∀s (d:Nat) y r,run s=true->d<=16->y.nodes<=256->(∀s,qck (base s++r))->ev pg (.call (.yld l) [num d,y.v] (base s++r))=some { v:=.bool (run (step s d y)),st:=⟨[],base (step s d y)++r⟩ }
variable{step run}
theorem jfm{h:H}{n:Nat}(hn:h.length=n)(a b:Ob):(h++[a,b])[n+1]?=some b:=by
 rw[jJ (by omega),hn,Nat.add_sub_cancel_left];rfl
theorem jek{h:H}{n:Nat}(hn:h.length=n)(a:Ob):(h++[a])[n]?=some a:=by
 rw[jJ (by omega),hn,Nat.sub_self];rfl
theorem z2o{h:H}{n:Nat}(hn:h.length=n)(a b c:Ob):(h++[a,b]).set (n+1) c=h++[a,c]:=by
 rw[List.set_append_right _ _ (by omega),hn,Nat.add_sub_cancel_left];rfl
theorem qht{h:H}{k:Nat}{o:Ob}(r:H)(hk:h[k]?=some o):(h++r)[k]?=some o:=by
 rw[jI (jG.1 hk).1];exact hk
structure Keep202(l:Nat)(x:Ex)(d k:Nat)(st:List V):Prop where
 nn:qdv st
 len:st.length=32
 t1:qat st 1=num d
 t3:qat st 3=.bptr (l+2) 0
 t15:qat st 15=.imm (x.args.map Ex.row)
 t16:qat st 16=num x.args.length
 t17:qat st 17=num k
def jem(l:Nat)(step:S->Nat->Ex->S)(run:S->Bool)(base:S->H)(x:Ex)(d:Nat)(r:H)(s1:S)(k:Nat)(st:St):Prop:=∃s,run s=true/\st.h=base s++(r++[⟨0,.box x.cells⟩])/\Keep202 l x d k st.s/\qfo step run (d+1) x.args s1=qfo step run (d+1) (x.args.drop k) s
def z3a(step:S->Nat->Ex->S)(run:S->Bool)(base:S->H)(x:Ex)(d:Nat)(r:H)(s1:S)(q:Am.R):Prop:=q.st.s.length=32/\∃z,q.st.h=base (qfo step run (d+1) x.args s1)++(r++z)/\((q.x=.exit 0/\run (qfo step run (d+1) x.args s1)=true)\/(q.x=.ret/\qat q.st.s 6=.bool false/\run (qfo step run (d+1) x.args s1)=false))
theorem zqs{l:Nat}{base:S->H}(hY:Yld step run l base)(x:Ex)(d:Nat)(hd:d+x.depth<=17)(hx:x.nodes<=256)(r:H)(hr:∀s,qck (base s++r))
  (ih:∀y∈x.args,∀(d:Nat) (s:S) (r:H),run s=true->d+y.depth<=17->y.nodes<=256->(∀s,qck (base s++r))->ev pg (.call (.fn 186 [] [.bptr (l+1) 0,.bptr (l+2) 0]) [y.v,num d] (base s++r))=some { v:=.bool (run (qld step run d y s)),st:=⟨[],base (qld step run d y s)++r⟩ })
  (s1:S) (n:Nat) (hn:n=l+3+(r.length+1)) (st:St) (h0:jem l step run base x d r s1 0 st):∃q,ev pg (.code (.going n L186_0) st)=some q/\z3a step run base x d r s1 q:=by
 have hfew:=qfv hx
 have hrx:∀s,qck (base s++(r++[⟨0,.box x.cells⟩])):=fun s=>by
  rw[<-List.append_assoc]
  exact qcl (hr s) (by simp)
 refine qbq (jem l step run base x d r s1) x.args.length (z3a step run base x d r s1) h0 ?_ ?_
 .rintro k ⟨sl,h⟩ hk ⟨s,hrun,rfl,⟨hnn,hl,e1,e3,e15,e16,e17⟩,hw⟩
  simp only at hl e1 e3 e15 e16 e17
  have hnl:∀j,qat sl j ≠ .nils:=qcp hnn
  have hk':(k:Int)<x.args.length:=by omega
  have wk:=qab (n:=(k:Int)+1) (by omega) (by omega)
  have hmem:=jH hk
  have hyd:x.args[k].depth+1<=x.depth:=by
   have h1:=qpj x
   have h2:=qtu.1 (jD (qko x.args)) _ hmem
   omega
  have hyp:=qjk x.args[k]
  have hd16:(d:Int)<=16:=by omega
  have wd:=qab (n:=(d:Int)+1) (by omega) (by omega)
  have hry:∀s,qck (base s++(r++[⟨0,.box x.cells⟩,⟨0,.arr 0 []⟩,⟨0,.box x.args[k].cells⟩])):=fun s=>by
   have e:base s++(r++[⟨0,.box x.cells⟩,⟨0,.arr 0 []⟩,⟨0,.box x.args[k].cells⟩])=(base s++(r++[⟨0,.box x.cells⟩]))++[⟨0,.arr 0 []⟩,⟨0,.box x.args[k].cells⟩]:=by simp
   rw[e]
   exact qcl (hrx s) (by simp[qbg])
  have hc:=ih x.args[k] hmem (d+1) s _ hrun (by omega) (qfn hx hmem) hry
  have e0:∀s,base s++(r++[⟨0,.box x.cells⟩,⟨0,.arr 0 []⟩,⟨0,.box x.args[k].cells⟩])=(base s++(r++[⟨0,.box x.cells⟩]))++[⟨0,.arr 0 []⟩,⟨0,.box x.args[k].cells⟩]:=fun s=>by simp
  rw[e0,e0]at hc
  rw[zdb step run hk]at hw
  generalize hs2:qld step run (d+1) x.args[k] s=s2 at *
  have hl0:(base s++(r++[⟨0,.box x.cells⟩]):H).length=n:=by simp[hY.len,hn]
  have hl2:(base s2++(r++[⟨0,.box x.cells⟩]):H).length=n:=by simp[hY.len,hn]
  have g9:=qht (r++[⟨0,.box x.cells⟩]) (hY.g9 s)
  have hc0:=hrx s
  have hc2:=hrx s2
  have hfin:base s2++(r++[⟨0,.box x.cells⟩,⟨0,.arr 0 []⟩,⟨0,.box x.args[k].cells⟩])=(base s2++(r++[⟨0,.box x.cells⟩]))++[⟨0,.arr 0 []⟩,⟨0,.box x.args[k].cells⟩]:=e0 s2
  have hcut:=qyu hc2
  rw[hl2]at hcut
  generalize hG:base s++(r++[⟨0,.box x.cells⟩])=G at *
  generalize hG2:base s2++(r++[⟨0,.box x.cells⟩])=G2 at *
  have g9':∀z,(G++z)[l+2]?=some ⟨0,.box [.fn 186 [] [.bptr (l+1) 0,.bptr (l+2) 0]]⟩:=fun z=>qht z g9
  have t1:=z2o hl0
  simp at hc
  rw[qaj hl]
  by_cases hb:run s2=true
  .rw[hb]at hc
   rw[if_pos hb]at hw
   simp[-qav,L186_0,List.range,List.range.loop,e1,e3,e15,e16,e17,hk,hk',hd16,wd,wk,hl0,t1,g9',hc,hcut]
   have h9:l+2<n:=by omega
   exact⟨s2,hb,hG2.symm,⟨by simp[qdv,hnl],rfl,rfl,by simp[h9],rfl,rfl,rfl⟩,hw⟩
  .have hb':run s2=false:=by simpa using hb
   rw[hb']at hc
   rw[if_neg hb]at hw
   simp[-qav,L186_0,List.range,List.range.loop,e1,e3,e15,e16,e17,hk,hk',hd16,wd,hl0,t1,g9',hc]
   refine⟨rfl,[⟨0,.box x.cells⟩,⟨0,.arr 0 []⟩,⟨0,.box x.args[k].cells⟩],?_,.inr ⟨rfl,rfl,by rw[hw];exact hb'⟩⟩
   rw[hw,hfin]
 .rintro⟨sl,h⟩ ⟨s,hrun,rfl,⟨hnn,hl,e1,e3,e15,e16,e17⟩,hw⟩
  simp only[List.drop_length]at hl e1 e3 e15 e16 e17 hw
  rw[qfo]at hw
  rw[qaj hl]
  simp[L186_0,z3a,List.range,List.range.loop,e1,e3,e15,e16,e17,hw,hrun]
theorem ev186{l:Nat}{base:S->H}(hY:Yld step run l base):∀(x:Ex) (d:Nat) (s:S) (r:H),run s=true->d+x.depth<=17->x.nodes<=256->(∀s,qck (base s++r))->ev pg (.call (.fn 186 [] [.bptr (l+1) 0,.bptr (l+2) 0]) [x.v,num d] (base s++r))=some { v:=.bool (run (qld step run d x s)),st:=⟨[],base (qld step run d x s)++r⟩ }:=by
 refine Ex.ind fun x ih d s r hrun hd hx hr=>?_
 have hp:=qjk x
 have hrx:∀s,qck (base s++(r++[⟨0,.box x.cells⟩])):=fun s=>by
  rw[<-List.append_assoc]
  exact qcl (hr s) (by simp)
 have hy:=hY.yld s d x (r++[⟨0,.box x.cells⟩]) hrun (by omega) hx hrx
 have hloop:=zqs hY x d hd hx r hr ih (step s d x) (l+3+(r.length+1)) rfl
 rw[qyl]
 generalize hs1:step s d x=s1 at *
 have hl0:(base s++r:H).length=l+3+r.length:=by simp[hY.len]
 have g8:=qht r (hY.g8 s)
 have gx:=jek (h:=base s++r) hl0 ⟨0,.box x.cells⟩
 have e0:∀s,base s++(r++[⟨0,.box x.cells⟩])=(base s++r)++[⟨0,.box x.cells⟩]:=fun s=>by simp
 have hcut:∀s z,qaq (l+3+r.length) (base s++(r++z))=base s++r:=fun s z=>by
  have:=qdd (hr s) z
  rw[List.append_assoc]at this
  rw[show(base s++r:H).length=l+3+r.length by simp[hY.len]]at this
  exact this
 rw[e0]at hy
 rw[qac,pg186]
 have g8':=qht [⟨0,.box x.cells⟩] g8
 rw[List.append_assoc]at g8' gx
 rw[<-e0]at hy
 by_cases hb:run s1=true
 .rw[hb]at hy
  simp[-qaq,ir186,hY.len,g8',hy,qaf]
  generalize hq:ev pg (.code (.going _ L186_0) _)=o
  obtain⟨q,rfl,hl,z,hh,hQ⟩:∃q,o=some q/\z3a step run base x d r s1 q:=by
   rw[<-hq]
   refine hloop _ ⟨s1,hb,rfl,⟨?_,?_,?_,?_,?_,?_,?_⟩,rfl⟩
   all_goals simp[qdv]
  rcases hQ with⟨hx,hw⟩ | ⟨hx,h6,hw⟩
  .simp[-qaq,hx,hh,hl,hw,hb,hcut]
  .simp[-qaq,hx,hh,h6,hw,hb,hcut]
 .have hb':run s1=false:=by simpa using hb
  rw[hb']at hy
  simp[-qaq,ir186,hY.len,g8',hy,hb',hcut]
end
section
variable{S:Type}{step:S->Nat->Ex->S}{run:S->Bool}
abbrev qdm(l:Nat):H:=[⟨0,.box [.yld l]⟩,⟨0,.box [.fn 186 [] [.bptr (l+1) 0,.bptr (l+2) 0]]⟩]
theorem ev185{l:Nat}{b7:S->H}(hY:Yld step run l (fun s=>b7 s++qdm l))(hlen:∀s,(b7 s).length=l+1)(hc:∀s,qck (b7 s))(x:Ex)(k:Nat)(hk:∀s,(b7 s)[k]?=some ⟨0,.box x.cells⟩)(hx:x.light=true)(s:S)(hrun:run s=true):ev pg (.call (.fn 185 [] [.bptr k 0]) [.yld l] (b7 s))=some { v:=.tup [],st:=⟨[],b7 (qld step run 1 x s)⟩ }:=by
 obtain⟨h1,h2⟩:=qes hx
 have hcb:∀s,qck ((b7 s++qdm l)++[]):=fun s=>by
  rw[List.append_nil]
  exact qcl (hc s) (by simp[hlen];omega)
 have hv:=ev186 hY x 1 s [] hrun (by omega) h1 hcb
 simp only[List.append_nil]at hv
 generalize qld step run 1 x s=s2 at *
 have t1:=z2o (hlen s)
 have gk:∀z,(b7 s++z)[k]?=some ⟨0,.box x.cells⟩:=fun z=>qht z (hk s)
 have hcut:∀z,qaq (l+1) (b7 s2++z)=b7 s2:=fun z=>by
  have:=qdd (hc s2) z
  rwa [hlen]at this
 rw[qac,pg185]
 simp at hv
 simp[-qaq,ir185,hlen,t1,gk,hv,hcut]
end
abbrev qvx(x:Ex):List V:=[x.v,.bptr 0 0,.bptr 1 0,.bptr 2 0,.bptr 3 0,.bptr 4 0,.bptr 5 0,.undef,x.v,.fn 185 [] [.bptr 6 0],.undef,.undef,.undef,.undef,.undef,.undef,.undef,.undef,.undef,.undef,.undef,.undef,.undef,.undef,.undef]
def m7(x:Ex)(s:Nat×Nat):H:=[⟨0,.box x.cells⟩,⟨0,.box [num 0]⟩,⟨0,.box [num 0]⟩,⟨0,.box [.bool false]⟩,⟨0,.box [num s.1]⟩,⟨0,.box [num s.2]⟩,⟨0,.box x.cells⟩,⟨0,.loop (qvx x) [10,11] L174_0 L174_1 (if s.1<=256 then none else some .ret)⟩]
def qez(s:Nat×Nat)(d:Nat)(_:Ex):Nat×Nat:=(s.1+1,max s.2 d)
def qna(s:Nat×Nat):Bool:=decide (s.1<=256)
theorem q3i{h:H}{k g:Nat}{sl:List V}{ps:List Nat}{a b:C}{p:Option X}(hc:qck h)(hk:h[k]?=some ⟨g,.loop sl ps a b p⟩)(p':Option X):qck (h.set k ⟨g,.loop sl ps a b p'⟩):=by
 rw[qgk]at hc ⊢
 have h1:=hc _ (jR hk)
 intro o ho
 rw[jU]
 rcases jT ho with ho | rfl
 .exact hc o ho
 .simp only[qbg,Ob.mk.injEq,K.loop.injEq,and_true,true_and]at h1 ⊢
  exact h1
theorem z0z(x:Ex):Yld qez qna 7 (fun s=>m7 x s++qdm 7):=by
 refine⟨fun s=>rfl,fun s=>rfl,fun s=>rfl,fun s d y r hrun hd hy hr=>?_⟩
 have h256:s.1<=256:=by simpa[qna]using hrun
 have e1:ev pg (.code L174_0 ⟨qfl (qvx x) [10,11] [num d,y.v],(m7 x s++qdm 7)++r⟩)=some { st:=⟨qhc (qhc (qhc (qvx x) 10 (num d)) 11 y.v) 7 (num d),(m7 x s++qdm 7)++r⟩ }:=by
  simp[L174_0]
 have wa:=qab (n:=(s.1:Int)+1) (by omega) (by omega)
 have hd':¬((16:Int)<(d:Int)):=by omega
 have e2:∃S2,ev pg (.code L174_1 ⟨qhc (qhc (qhc (qvx x) 10 (num d)) 11 y.v) 7 (num d),((m7 x s++qdm 7)++r).set 7 ⟨0,.loop (qvx x) [10,11] L174_0 L174_1 (some .normal)⟩⟩)=some { x:=if s.1+1<=256 then .normal else .ret,st:=⟨S2,((m7 x (qez s d y)++qdm 7)++r).set 7 ⟨0,.loop (qvx x) [10,11] L174_0 L174_1 (some .normal)⟩⟩ }:=by
  by_cases h:s.1+1<=256
  .have h':¬((256:Int)<(s.1:Int)+1):=by omega
   simp[m7,L174_1,qez,wa,h,h',hd']
   split<;>omega
  .have h':(256:Int)<(s.1:Int)+1:=by omega
   simp[m7,L174_1,qez,wa,h,h']
   split<;>omega
 obtain⟨S2,e2⟩:=e2
 have hr2:=hr (qez s d y)
 have hcl:=q3i hr2 (k:=7) (g:=0) (sl:=qvx x) (ps:=[10,11]) (a:=L174_0) (b:=L174_1) (p:=if(qez s d y).1<=256 then none else some .ret) rfl (some .normal)
 have hck:=qeb hcl
 rw[jU]at hck
 have hlen:((m7 x s++qdm 7)++r:H).length=((m7 x (qez s d y)++qdm 7)++r:H).length:=rfl
 rw[<-hlen]at hck
 have hy2:=zeo (P:=pg) (l:=7) (args:=[num d,y.v]) (h:=(m7 x s++qdm 7)++r) (g:=0) (sl:=qvx x) (ps:=[10,11]) (a:=L174_0) (b:=L174_1) (by simp[m7,h256]) rfl e1 (g1:=0) (sl1:=qvx x) (ps1:=[10,11]) (a1:=L174_0) (b1:=L174_1) (by simp[m7,h256]) e2 (g2:=0) (sl2:=qvx x) (ps2:=[10,11]) (as2:=L174_0) (bd2:=L174_1) (p2:=some .normal) (by
  rw[hck];rfl)
 rw[hck]at hy2
 rw[hy2]
 by_cases h:s.1+1<=256
 .simp[qna,qez,h,m7]
 .simp[qna,qez,h,m7]
theorem zpk:∀(x:Ex) (d:Nat) (s:Nat×Nat),s.1+x.nodes<=256->qld qez qna d x s=(s.1+x.nodes,max s.2 (d+x.depth-1)):=by
 refine Ex.ind fun x ih d s hs=>?_
 have hn:=qmj x
 have hd:=qpj x
 have hl:∀(l:List Ex) (s:Nat×Nat),(∀y∈l,y∈x.args)->d<=s.2->s.1+qed l<=256->qfo qez qna (d+1) l s=(s.1+qed l,max s.2 (d+qko l)):=by
  intro l
  induction l with
  | nil =>
   intro s _ hds h
   have e:max s.2 d=s.2:=by omega
   simp[qfo,qed,qko,e]
  | cons y l ihl =>
   intro s hsub hds h
   rw[qed]at h
   rw[qfo,ih y (hsub y (by simp)) (d+1) s (by omega)]
   have hrun:qna (s.1+y.nodes,max s.2 (d+1+y.depth-1))=true:=by simp[qna];omega
   rw[if_pos hrun,ihl _ (fun z hz=>hsub z (by simp[hz])) (by simp only;omega) (by simp only;omega)]
   have hyp:=qjk y
   rw[qed,qko]
   simp only[Prod.mk.injEq]
   omega
 rw[qyl]
 have hrun:qna (qez s d x)=true:=by
  have:=qug x
  simp[qna,qez];omega
 rw[if_pos hrun,hl x.args _ (fun y hy=>hy) (by simp only[qez];omega) (by simp only[qez];omega),hn,hd]
 simp only[qez,Prod.mk.injEq]
 omega
theorem ev175(x:Ex)(h:H):ev pg (.call (.fn 175 [] []) [x.v] h)=some { v:=.fn 185 [] [.bptr h.length 0],st:=⟨[],h++[⟨0,.box x.cells⟩]⟩ }:=by
 rw[qac,pg175]
 simp[ir175]
theorem ev174(x:Ex)(hx:x.light=true):ev pg (.call (.fn 174 [] []) [x.v] [])=some { v:=.tup [num x.nodes,num x.depth,.bool true],st:=⟨[],[]⟩ }:=by
 obtain⟨h1,h2⟩:=qes hx
 have hd:=qjk x
 have h187:=ev175 x
 have h201:=ev185 (z0z x) (fun _=>rfl) (fun s=>by simp[qck,m7,qbg]) x 6 (fun _=>rfl) hx (0,0) rfl
 rw[zpk x 1 (0,0) (by simp only;omega)]at h201
 have hm:max 0 (1+x.depth-1)=x.depth:=by omega
 rw[hm]at h201
 simp[m7,h1]at h201
 rw[qac,pg174]
 simp[ir174,h187,qhh,h201,qaa,exT,qae]
abbrev qll(x:Ex)(n:Int):List V:=[x.v,num n,.bptr 0 0,.bptr 1 0,.bptr 2 0,num x.nodes,num x.depth,.bool true,.undef,.undef,.undef,num n,.bool false,.bool false,num n,.bool false,.bool false,.tup [num x.nodes,num x.depth,.bool true],x.v,.tup [num x.nodes,num x.depth,.bool true],num x.nodes,num x.depth,.bool true,.bool true,.bool false,x.v,.fn 185 [] [.bptr 3 0],.undef,.undef,.undef,.undef,.undef,.undef,.undef,.undef]
def m4(x:Ex)(n:Int)(e:Int):H:=[⟨0,.box x.cells⟩,⟨0,.box [num n]⟩,⟨0,.box [num e]⟩,⟨0,.box x.cells⟩,⟨0,.loop (qll x n) [27,28] L150_0 L150_1 (if e=0 then none else some .ret)⟩]
def qgy(n:Int)(_:Int)(_:Nat)(y:Ex):Int:=qbm y.op y.idx y.args.length n
def qlq(e:Int):Bool:=decide (e=0)
abbrev jer(y:Ex):H:=[⟨0,.arr 0 []⟩,⟨0,.box y.cells⟩]
theorem z2c(x:Ex)(n:Int)(hn:0<=n/\n<=256):Yld (qgy n) qlq 4 (fun e=>m4 x n e++qdm 4):=by
 refine⟨fun s=>rfl,fun s=>rfl,fun s=>rfl,fun s d y r hrun hd hy hr=>?_⟩
 obtain rfl:s=0:=by simpa[qlq]using hrun
 have h188:=ev176 y n hy hn
 have e1:∃S1,qat S1 3=.bptr 1 0/\qat S1 4=.bptr 2 0/\qat S1 9=.bptr (7+r.length+1) 0/\S1.length=35/\ev pg (.code L150_0 ⟨qfl (qll x n) [27,28] [num d,y.v],(m4 x n 0++qdm 4)++r⟩)=some { st:=⟨S1,((m4 x n 0++qdm 4)++r)++[⟨0,.arr 0 []⟩,⟨0,.box y.cells⟩]⟩ }:=by
  have hl0:((m4 x n 0++qdm 4)++r:H).length=7+r.length:=by simp[m4];omega
  generalize (m4 x n 0++qdm 4)++r=G at *
  have t1:=z2o hl0
  simp[L150_0,hl0,t1]
  exact⟨_,rfl,rfl,rfl,rfl,rfl⟩
 obtain⟨S1,g3,g4,g9,hl,e1⟩:=e1
 have e2:∃S2,ev pg (.code L150_1 ⟨S1,(((m4 x n 0++qdm 4)++r)++jer y).set 4 ⟨0,.loop (qll x n) [27,28] L150_0 L150_1 (some .normal)⟩⟩)=some { x:=if qbm y.op y.idx y.args.length n=0 then .normal else .ret,st:=⟨S2,(((m4 x n (qbm y.op y.idx y.args.length n)++qdm 4)++r).set 4 ⟨0,.loop (qll x n) [27,28] L150_0 L150_1 (some .normal)⟩)++jer y⟩ }:=by
  generalize qbm y.op y.idx y.args.length n=e at *
  have k1:(((m4 x n 0++qdm 4)++r).set 4 ⟨0,.loop (qll x n) [27,28] L150_0 L150_1 (some .normal)⟩)[1]?=some ⟨0,.box [num n]⟩:=rfl
  have k2:(((m4 x n 0++qdm 4)++r).set 4 ⟨0,.loop (qll x n) [27,28] L150_0 L150_1 (some .normal)⟩)[2]?=some ⟨0,.box [num 0]⟩:=rfl
  have hl0:(((m4 x n 0++qdm 4)++r).set 4 ⟨0,.loop (qll x n) [27,28] L150_0 L150_1 (some .normal)⟩:H).length=7+r.length:=by simp[m4];omega
  have s2:∀z,((((m4 x n 0++qdm 4)++r).set 4 ⟨0,.loop (qll x n) [27,28] L150_0 L150_1 (some .normal)⟩)++z).set 2 ⟨0,.box [num e]⟩=((m4 x n e++qdm 4)++r).set 4 ⟨0,.loop (qll x n) [27,28] L150_0 L150_1 (some .normal)⟩++z:=fun z=>rfl
  have h0:e=0->((m4 x n 0++qdm 4)++r).set 4 ⟨0,.loop (qll x n) [27,28] L150_0 L150_1 (some .normal)⟩=((m4 x n e++qdm 4)++r).set 4 ⟨0,.loop (qll x n) [27,28] L150_0 L150_1 (some .normal)⟩:=fun h=>by rw[h]
  rw[List.set_append_left _ _ (by simp[m4])]
  generalize ((m4 x n 0++qdm 4)++r).set 4 ⟨0,.loop (qll x n) [27,28] L150_0 L150_1 (some .normal)⟩=G at *
  generalize ((m4 x n e++qdm 4)++r).set 4 ⟨0,.loop (qll x n) [27,28] L150_0 L150_1 (some .normal)⟩=G2 at *
  have a1:=jfm hl0
  have k1':=fun z=>qht z k1
  have k2':=fun z=>qht z k2
  rw[qaj hl]
  by_cases he:e=0
  .rw[h0 he]at *
   simp[-getElem?_pos,L150_1,List.range,List.range.loop,g3,g4,g9,a1,k1',h188,he]
  .simp[-getElem?_pos,L150_1,List.range,List.range.loop,g3,g4,g9,a1,k1',k2',s2,h188,he]
 obtain⟨S2,e2⟩:=e2
 have hr2:=hr (qgy n 0 d y)
 have hcl:=q3i hr2 (k:=4) (g:=0) (sl:=qll x n) (ps:=[27,28]) (a:=L150_0) (b:=L150_1) (p:=if qgy n 0 d y=0 then none else some .ret) rfl (some .normal)
 have hck:=qdd hcl [⟨0,.arr 0 []⟩,⟨0,.box y.cells⟩]
 rw[jU]at hck
 have hlen:((m4 x n 0++qdm 4)++r:H).length=((m4 x n (qgy n 0 d y)++qdm 4)++r:H).length:=rfl
 rw[<-hlen]at hck
 have hy2:=zeo (P:=pg) (l:=4) (args:=[num d,y.v]) (h:=(m4 x n 0++qdm 4)++r) (g:=0) (sl:=qll x n) (ps:=[27,28]) (a:=L150_0) (b:=L150_1) (by simp[m4]) rfl e1 (g1:=0) (sl1:=qll x n) (ps1:=[27,28]) (a1:=L150_0) (b1:=L150_1) (by simp[m4]) e2 (g2:=0) (sl2:=qll x n) (ps2:=[27,28]) (as2:=L150_0) (bd2:=L150_1) (p2:=some .normal) (by
  show(qaq _ (((m4 x n (qgy n 0 d y)++qdm 4)++r).set 4 _++_))[4]?=_
  rw[hck];rfl)
 rw[hy2]
 show some ({ v:=_,st:=⟨[],(qaq _ (((m4 x n (qgy n 0 d y)++qdm 4)++r).set 4 _++_)).set 4 _⟩ }:Am.R)=_
 rw[hck]
 by_cases h:qbm y.op y.idx y.args.length n=0
 .simp[qlq,qgy,h,m4]
 .simp[qlq,qgy,h,m4]
theorem ztu(n:Int):∀(x:Ex) (d:Nat) (e:Int),qld (qgy n) qlq d x e=x.err n:=by
 refine Ex.ind fun x ih d e=>?_
 rw[qyl,q7i]
 have hl:∀(l:List Ex),(∀y∈l,y∈x.args)->qfo (qgy n) qlq (d+1) l 0=q3f n l:=by
  intro l
  induction l with
  | nil=>intro _;simp[qfo,q3f]
  | cons y l ihl =>
   intro hsub
   rw[qfo,ih y (hsub y (by simp)),q3f]
   by_cases h:y.err n=0
   .rw[h,if_pos (by rfl),if_pos rfl]
    exact ihl fun z hz=>hsub z (by simp[hz])
   .rw[if_neg (by simp[qlq,h]),if_neg h]
 show(if qlq (qbm x.op x.idx x.args.length n)=true then qfo (qgy n) qlq (d+1) x.args (qbm x.op x.idx x.args.length n)else qbm x.op x.idx x.args.length n)=_
 by_cases h:qbm x.op x.idx x.args.length n=0
 .rw[h,if_pos rfl]
  show qfo (qgy n) qlq (d+1) x.args 0=_
  exact hl x.args fun y hy=>hy
 .rw[if_neg (by simp[qlq,h]),if_neg h]
theorem ev150(x:Ex)(n:Int)(hx:x.light=true):ev pg (.call (.fn 150 [] []) [x.v,num n] [])=some { v:=num (x.check n),st:=⟨[],[]⟩ }:=by
 have zgm:=ev174 x hx
 have h187:=ev175 x
 rw[qac,pg150]
 by_cases h1:n<0
 .simp[ir150,Ex.check,h1]
 .by_cases h2:256<n
  .simp[ir150,Ex.check,h1,h2]
  .have h201:=ev185 (z2c x n ⟨by omega,by omega⟩) (fun _=>rfl) (fun s=>by simp[qck,m4,qbg]) x 3 (fun _=>rfl) hx 0 rfl
   rw[ztu]at h201
   have hc:x.check n=x.err n:=by simp[Ex.check,h1,h2,hx]
   rw[hc]
   generalize x.err n=e at *
   by_cases he:e=0
   .subst he
    simp[m4]at h201
    simp[ir150,h1,h2,zgm,h187,qhh,h201]
   .simp[m4,he]at h201
    simp[ir150,h1,h2,zgm,h187,qhh,h201]
end Go.Proofs.YtlhciedghbmjjaaGreat
