/- The errors of an expression, by the program. -/
import Derived.Test.YtbepbclaoohngaaGreatCEx3
import Derived.Test.YtbepbclaoohngaaGreatCEn2
set_option linter.all false
namespace Go.Proofs.YtbepbclaoohngaaGreat
open Go Go.Am Go.Proofs
set_option maxRecDepth 100000
def calm(h:H):Prop:=h.map (qcf h.length)=h
theorem zef{n:Nat}{v:V}(h:qbs n v=v):v.low n=true:=by
 unfold qbs at h
 split at h
 .assumption
 .rw[<-h];rfl
theorem qws{n:Nat}:∀{l:List V},l.map (qbs n)=l->qem n l=true
 | [],_=>rfl
 | v :: l,h=>by
  simp only[List.map_cons,List.cons.injEq]at h
  simp only[qem,zef h.1,qws h.2,Bool.and_self]
theorem q3b{n:Nat}:∀{R:List (List V)},(R.map fun r=>r.map (qbs n))=R->R.all (qem n)=true
 | [],_=>rfl
 | r :: R,h=>by
  simp only[List.map_cons,List.cons.injEq]at h
  simp only[List.all_cons,qws h.1,q3b h.2,Bool.and_self]
theorem zed{m n:Nat}(h:m<=n){R:List (List V)}(e:R.all (qem m)=true):R.all (qem n)=true:=by
 rw[jP]at *
 exact fun r hr=>qcp h r (e r hr)
theorem zbd{n:Nat}:∀{R:List (List V)},R.all (qem n)=true->(R.map fun r=>r.map (qbs n))=R
 | [],_=>rfl
 | r :: R,h=>by
  simp only[List.all_cons,jE]at h
  simp only[List.map_cons,qnf h.1,zbd h.2]
theorem q8m{m n:Nat}(hmn:m<=n){o:Ob}(h:qcf m o=o):qcf n o=o:=by
 unfold qcf at h ⊢
 split<;>rename_i hk<;>simp only[hk]at h ⊢
 .rename_i cells
  have h2:=congrArg Ob.k h
  simp only[hk,K.box.injEq]at h2
  rw[qnf (qcp hmn _ (qws h2))]
  rw[<-hk]
 .rename_i sl ps a b p
  have h2:=congrArg Ob.k h
  simp only[hk,K.loop.injEq,and_true]at h2
  rw[qnf (qcp hmn _ (qws h2))]
  rw[<-hk]
 .rename_i q els
  have h2:=congrArg Ob.k h
  simp only[hk,K.nst.injEq,true_and]at h2
  rw[zbd (zed hmn (q3b h2))]
  rw[<-hk]
theorem zit{h:H}{f:Ob->Ob}:(h.map f=h)<->∀o∈h,f o=o:=by
 induction h with
 | nil=>simp
 | cons o h ih=>simp[ih]
theorem qqf{h:H}:calm h<->∀o∈h,qcf h.length o=o:=zit
theorem qhi{h r:H}(hc:calm h)(hr:∀o∈r,qcf (h.length+r.length) o=o):calm (h++r):=by
 rw[qqf]at hc ⊢
 intro o ho
 rw[jF]
 rcases jQ.1 ho with ho | ho
 .exact q8m (Nat.le_add_right _ _) (hc o ho)
 .exact hr o ho
theorem q9l{h:H}(hc:calm h)(r:H):qji h.length (h++r)=h:=by
 unfold qji
 rw[List.take_left]
 exact hc
theorem q6a{h:H}(hc:calm h)(r:H):qpp h.length (h++r)=true:=by
 unfold qpp
 rw[List.take_left,jP]
 intro o ho
 have h1:=qqf.1 hc o ho
 unfold qcf at h1
 split<;>try rfl
 .rename_i cells hk
  rw[hk]at h1
  simp only at h1
  have h2:=congrArg Ob.k h1
  simp only[hk,K.box.injEq]at h2
  exact qws h2
 .rename_i q els hk
  rw[hk]at h1
  simp only at h1
  have h2:=congrArg Ob.k h1
  simp only[hk,K.nst.injEq,true_and]at h2
  exact q3b h2
theorem qqh{h:H}(hc:calm h)(r:H):qjj h.length (h++r)=h:=by
 unfold qjj
 rw[if_pos (q6a hc r),q9l hc]
theorem qfx{h:H}(hc:calm h)(r:H):qea h.length (h++r)=h:=by
 unfold qea
 rw[if_pos (q6a hc r),q9l hc]
theorem qqe{h:H}(hc:calm h):qjj h.length h=h:=by
 have:=qqh hc []
 rwa [List.append_nil]at this
theorem qgk{h:H}(hc:calm h):qea h.length h=h:=by
 have:=qfx hc []
 rwa [List.append_nil]at this
def qar(s:List V):Prop:=∀v∈s,v ≠ .nils
theorem qaq:∀{s:List V},qar s->∀j,qai s j ≠ .nils
 | [],_,j=>by simp[qai]
 | v :: s,h,0=>h v (by simp)
 | v :: s,h,j+1=>qaq (s:=s) (fun w hw=>h w (by simp[hw])) j
theorem qej:∀{s:List V} {k:Nat} {v:V},qar s->v ≠ .nils->qar (qes s k v)
 | [],_,_,h,_=>h
 | x :: s,0,v,h,hv=>fun w hw=>by
  rcases List.mem_cons.1 hw with rfl | hw
  .exact hv
  .exact h w (by simp[hw])
 | x :: s,k+1,v,h,hv=>fun w hw=>by
  rcases List.mem_cons.1 hw with rfl | hw
  .exact h w (by simp)
  .exact qej (s:=s) (k:=k) (fun u hu=>h u (by simp[hu])) hv w hw
@[simp] theorem qbp(n:Nat):∀(s:List V) (k:Nat),qai (s.map (qbs n)) k=qbs n (qai s k)
 | [],k=>by simp[qai]
 | v :: s,0=>rfl
 | v :: s,k+1=>by simp only[List.map_cons,qai];exact qbp n s k
theorem qpo{n:Nat}{s:List V}(h:qar s):qar (s.map (qbs n)):=by
 intro v hv
 obtain⟨w,hw,rfl⟩:=List.mem_map.1 hv
 have:=h w hw
 unfold qbs
 split
 .exact this
 .simp
@[simp] theorem jaj{p:Prop}[Decidable p]{v:V}:((if p then v else V.undef)=.nils)<->(p/\v=.nils):=by
 split<;>simp_all
theorem zgq{P:Prg}{l:Nat}{args:List V}{h:H}{g:Nat}{sl:List V}{ps:List Nat}{a b:C}(hl:h[l]?=some ⟨g,.loop sl ps a b none⟩)(hn:args.length=ps.length){s1:List V}{h1:H}(e1:ev P (.code a ⟨qfo sl ps args,h⟩)=some { st:=⟨s1,h1⟩ }){g1:Nat}{sl1:List V}{ps1:List Nat}{a1 b1:C}(hl1:h1[l]?=some ⟨g1,.loop sl1 ps1 a1 b1 none⟩){r2:R}(e2:ev P (.code b ⟨s1,h1.set l ⟨g1,.loop sl1 ps1 a1 b1 (some .normal)⟩⟩)=some r2){g2:Nat}{sl2:List V}{ps2:List Nat}{as2 bd2:C}{p2:Option X}(h3:(qea h.length r2.st.h)[l]?=some ⟨g2,.loop sl2 ps2 as2 bd2 p2⟩):ev P (.call (.yld l) args h)=some { v:=.bool (decide (r2.x=.normal)),st:=⟨[],(qea h.length r2.st.h).set l ⟨g2,.loop sl2 ps2 as2 bd2 (if r2.x=.normal then none else some r2.x)⟩⟩ }:=by
 rw[qia]
 simp only[qci,hl,hn,if_true,e1,hl1,e2,h3]
 cases r2.x<;>rfl
theorem qgl{P:Prg}(f:A)(ps:List Nat)(a b:C)(st:St):ev P (.code (.range f ps a b) st)=(match f.ev (qda st).s with
  | .fn fid first caps =>
   match ev P (.call (.fn fid first caps) [.yld (qda st).h.length] ((qda st).h++[⟨0,.loop (qda st).s ps a b none⟩]))with
   | some r=>match r.st.h[(qda st).h.length]? with
    | some ⟨g,.loop sl2 ps2 as2 bd2 p⟩ =>
     match p with
     | none=>some { st:=⟨(qda st).s,qea (qda st).h.length (r.st.h.set (qda st).h.length ⟨g,.loop sl2 ps2 as2 bd2 (some .normal)⟩)⟩ }
     | some .normal=>none
     | some x=>some { x:=x,st:=⟨(qda st).s,qea (qda st).h.length (r.st.h.set (qda st).h.length ⟨g,.loop sl2 ps2 as2 bd2 (some .normal)⟩)⟩ }
    | _=>none
   | none=>none
  | _=>none):=by rw[qia];rfl
section
variable{S:Type}(step:S->Nat->Ex->S)(run:S->Bool)
mutual
def qnp(d:Nat):Ex->S->S
 | .mk o i l,s=>if run (step s d (.mk o i l))=true then qgg (d+1) l (step s d (.mk o i l))else step s d (.mk o i l)
def qgg(d:Nat):List Ex->S->S
 | [],s=>s
 | y :: r,s=>if run (qnp d y s)=true then qgg d r (qnp d y s)else qnp d y s
end
theorem q3q(d:Nat)(x:Ex)(s:S):qnp step run d x s=if run (step s d x)=true then qgg step run (d+1) x.args (step s d x)else step s d x:=by
 cases x;rw[qnp];rfl
theorem zkm{d:Nat}{l:List Ex}{k:Nat}{s:S}(hk:k<l.length):qgg step run d (l.drop k) s=if run (qnp step run d l[k] s)=true then qgg step run d (l.drop (k+1)) (qnp step run d l[k] s)else qnp step run d l[k] s:=by
 rw[jL hk,qgg]
structure Yld(l:Nat)(base:S->H):Prop where
 len:∀s,(base s).length=l+3
 g8:∀s,(base s)[l+1]?=some ⟨0,.box [.yld l]⟩
 g9:∀s,(base s)[l+2]?=some ⟨0,.box [.fn 292 [] [.bptr (l+1) 0,.bptr (l+2) 0]]⟩
 yld:∀s (d:Nat) y r,run s=true->d<=16->y.nodes<=256->(∀s,calm (base s++r))->ev pg (.call (.yld l) [num d,y.v] (base s++r))=some { v:=.bool (run (step s d y)),st:=⟨[],base (step s d y)++r⟩ }
variable{step run}
theorem jgn{h:H}{n:Nat}(hn:h.length=n)(a b:Ob):(h++[a,b])[n+1]?=some b:=by
 rw[jJ (by omega),hn,Nat.add_sub_cancel_left];rfl
theorem jbk{h:H}{n:Nat}(hn:h.length=n)(a:Ob):(h++[a])[n]?=some a:=by
 rw[jJ (by omega),hn,Nat.sub_self];rfl
theorem jaq{h:H}{n:Nat}(hn:h.length=n)(a b c:Ob):(h++[a,b]).set (n+1) c=h++[a,c]:=by
 rw[List.set_append_right _ _ (by omega),hn,Nat.add_sub_cancel_left];rfl
theorem qha{h:H}{k:Nat}{o:Ob}(r:H)(hk:h[k]?=some o):(h++r)[k]?=some o:=by
 rw[jI (jG.1 hk).1];exact hk
structure Keep202(l:Nat)(x:Ex)(d k:Nat)(st:List V):Prop where
 nn:qar st
 len:st.length=32
 t1:qai st 1=num d
 t3:qai st 3=.bptr (l+2) 0
 t15:qai st 15=.imm (x.args.map Ex.row)
 t16:qai st 16=num x.args.length
 t17:qai st 17=num k
def jft(l:Nat)(step:S->Nat->Ex->S)(run:S->Bool)(base:S->H)(x:Ex)(d:Nat)(r:H)(s1:S)(k:Nat)(st:St):Prop:=∃s,run s=true/\st.h=base s++(r++[⟨0,.box x.cells⟩])/\Keep202 l x d k st.s/\qgg step run (d+1) x.args s1=qgg step run (d+1) (x.args.drop k) s
def z4c(step:S->Nat->Ex->S)(run:S->Bool)(base:S->H)(x:Ex)(d:Nat)(r:H)(s1:S)(q:Am.R):Prop:=q.st.s.length=32/\∃z,q.st.h=base (qgg step run (d+1) x.args s1)++(r++z)/\((q.x=.exit 0/\run (qgg step run (d+1) x.args s1)=true)\/(q.x=.ret/\qai q.st.s 6=.bool false/\run (qgg step run (d+1) x.args s1)=false))
theorem zus{l:Nat}{base:S->H}(hY:Yld step run l base)(x:Ex)(d:Nat)(hd:d+x.depth<=17)(hx:x.nodes<=256)(r:H)(hr:∀s,calm (base s++r))
  (ih:∀y∈x.args,∀(d:Nat) (s:S) (r:H),run s=true->d+y.depth<=17->y.nodes<=256->(∀s,calm (base s++r))->ev pg (.call (.fn 292 [] [.bptr (l+1) 0,.bptr (l+2) 0]) [y.v,num d] (base s++r))=some { v:=.bool (run (qnp step run d y s)),st:=⟨[],base (qnp step run d y s)++r⟩ })
  (s1:S) (n:Nat) (hn:n=l+3+(r.length+1)) (st:St) (h0:jft l step run base x d r s1 0 st):∃q,ev pg (.code (.going n L292_0) st)=some q/\z4c step run base x d r s1 q:=by
 have hfew:=qfj hx
 have hrx:∀s,calm (base s++(r++[⟨0,.box x.cells⟩])):=fun s=>by
  rw[<-List.append_assoc]
  exact qhi (hr s) (by simp)
 refine qau (jft l step run base x d r s1) x.args.length (z4c step run base x d r s1) h0 ?_ ?_
 .rintro k ⟨sl,h⟩ hk ⟨s,hrun,rfl,⟨hnn,hl,e1,e3,e15,e16,e17⟩,hw⟩
  simp only at hl e1 e3 e15 e16 e17
  have hnl:∀j,qai sl j ≠ .nils:=qaq hnn
  have hk':(k:Int)<x.args.length:=by omega
  have wk:=qbb (k:=k) (by omega)
  have hmem:=jH hk
  have hyd:x.args[k].depth+1<=x.depth:=by
   have h1:=qqi x
   have h2:=qvx.1 (jD (qgx x.args)) _ hmem
   omega
  have hyp:=qkk x.args[k]
  have hd16:(d:Int)<=16:=by omega
  have wd:=qbb (k:=d) (by omega)
  have hry:∀s,calm (base s++(r++[⟨0,.box x.cells⟩,⟨0,.arr 0 []⟩,⟨0,.box x.args[k].cells⟩])):=fun s=>by
   have e:base s++(r++[⟨0,.box x.cells⟩,⟨0,.arr 0 []⟩,⟨0,.box x.args[k].cells⟩])=(base s++(r++[⟨0,.box x.cells⟩]))++[⟨0,.arr 0 []⟩,⟨0,.box x.args[k].cells⟩]:=by simp
   rw[e]
   exact qhi (hrx s) (by simp[qcf])
  have hc:=ih x.args[k] hmem (d+1) s _ hrun (by omega) (qex hx hmem) hry
  have e0:∀s,base s++(r++[⟨0,.box x.cells⟩,⟨0,.arr 0 []⟩,⟨0,.box x.args[k].cells⟩])=(base s++(r++[⟨0,.box x.cells⟩]))++[⟨0,.arr 0 []⟩,⟨0,.box x.args[k].cells⟩]:=fun s=>by simp
  rw[e0,e0]at hc
  rw[zkm step run hk]at hw
  generalize hs2:qnp step run (d+1) x.args[k] s=s2 at *
  have hl0:(base s++(r++[⟨0,.box x.cells⟩]):H).length=n:=by simp[hY.len,hn]
  have hl2:(base s2++(r++[⟨0,.box x.cells⟩]):H).length=n:=by simp[hY.len,hn]
  have g9:=qha (r++[⟨0,.box x.cells⟩]) (hY.g9 s)
  have hc0:=hrx s
  have hc2:=hrx s2
  have hfin:base s2++(r++[⟨0,.box x.cells⟩,⟨0,.arr 0 []⟩,⟨0,.box x.args[k].cells⟩])=(base s2++(r++[⟨0,.box x.cells⟩]))++[⟨0,.arr 0 []⟩,⟨0,.box x.args[k].cells⟩]:=e0 s2
  have hcut:=qqh hc2
  rw[hl2]at hcut
  generalize hG:base s++(r++[⟨0,.box x.cells⟩])=G at *
  generalize hG2:base s2++(r++[⟨0,.box x.cells⟩])=G2 at *
  have g9':∀z,(G++z)[l+2]?=some ⟨0,.box [.fn 292 [] [.bptr (l+1) 0,.bptr (l+2) 0]]⟩:=fun z=>qha z g9
  have t1:=jaq hl0
  simp at hc
  rw[qad hl]
  by_cases hb:run s2=true
  .rw[hb]at hc
   rw[if_pos hb]at hw
   simp[-qjj,L292_0,List.range,List.range.loop,e1,e3,e15,e16,e17,hk,hk',hd16,wd,wk,hl0,t1,g9',hc,hcut]
   have h9:l+2<n:=by omega
   exact⟨s2,hb,hG2.symm,⟨by simp[qar,hnl],rfl,rfl,by simp[h9],rfl,rfl,rfl⟩,hw⟩
  .have hb':run s2=false:=by simpa using hb
   rw[hb']at hc
   rw[if_neg hb]at hw
   simp[-qjj,L292_0,List.range,List.range.loop,e1,e3,e15,e16,e17,hk,hk',hd16,wd,hl0,t1,g9',hc]
   refine⟨rfl,[⟨0,.box x.cells⟩,⟨0,.arr 0 []⟩,⟨0,.box x.args[k].cells⟩],?_,.inr ⟨rfl,rfl,by rw[hw];exact hb'⟩⟩
   rw[hw,hfin]
 .rintro⟨sl,h⟩ ⟨s,hrun,rfl,⟨hnn,hl,e1,e3,e15,e16,e17⟩,hw⟩
  simp only[List.drop_length]at hl e1 e3 e15 e16 e17 hw
  rw[qgg]at hw
  rw[qad hl]
  simp[L292_0,z4c,List.range,List.range.loop,e1,e3,e15,e16,e17,hw,hrun]
theorem ev292{l:Nat}{base:S->H}(hY:Yld step run l base):∀(x:Ex) (d:Nat) (s:S) (r:H),run s=true->d+x.depth<=17->x.nodes<=256->(∀s,calm (base s++r))->ev pg (.call (.fn 292 [] [.bptr (l+1) 0,.bptr (l+2) 0]) [x.v,num d] (base s++r))=some { v:=.bool (run (qnp step run d x s)),st:=⟨[],base (qnp step run d x s)++r⟩ }:=by
 refine Ex.ind fun x ih d s r hrun hd hx hr=>?_
 have hp:=qkk x
 have hrx:∀s,calm (base s++(r++[⟨0,.box x.cells⟩])):=fun s=>by
  rw[<-List.append_assoc]
  exact qhi (hr s) (by simp)
 have hy:=hY.yld s d x (r++[⟨0,.box x.cells⟩]) hrun (by omega) hx hrx
 have hloop:=zus hY x d hd hx r hr ih (step s d x) (l+3+(r.length+1)) rfl
 rw[q3q]
 generalize hs1:step s d x=s1 at *
 have hl0:(base s++r:H).length=l+3+r.length:=by simp[hY.len]
 have g8:=qha r (hY.g8 s)
 have gx:=jbk (h:=base s++r) hl0 ⟨0,.box x.cells⟩
 have e0:∀s,base s++(r++[⟨0,.box x.cells⟩])=(base s++r)++[⟨0,.box x.cells⟩]:=fun s=>by simp
 have hcut:∀s z,qea (l+3+r.length) (base s++(r++z))=base s++r:=fun s z=>by
  have:=qfx (hr s) z
  rw[List.append_assoc]at this
  rw[show(base s++r:H).length=l+3+r.length by simp[hY.len]]at this
  exact this
 rw[e0]at hy
 rw[qaa,pg292]
 have g8':=qha [⟨0,.box x.cells⟩] g8
 rw[List.append_assoc]at g8' gx
 rw[<-e0]at hy
 by_cases hb:run s1=true
 .rw[hb]at hy
  simp[-qea,ir292,hY.len,g8',hy,qah]
  generalize hq:ev pg (.code (.going _ L292_0) _)=o
  obtain⟨q,rfl,hl,z,hh,hQ⟩:∃q,o=some q/\z4c step run base x d r s1 q:=by
   rw[<-hq]
   refine hloop _ ⟨s1,hb,rfl,⟨?_,?_,?_,?_,?_,?_,?_⟩,rfl⟩
   all_goals simp[qar]
  rcases hQ with⟨hx,hw⟩ | ⟨hx,h6,hw⟩
  .simp[-qea,hx,hh,hl,hw,hb,hcut]
  .simp[-qea,hx,hh,h6,hw,hb,hcut]
 .have hb':run s1=false:=by simpa using hb
  rw[hb']at hy
  simp[-qea,ir292,hY.len,g8',hy,hb',hcut]
end
section
variable{S:Type}{step:S->Nat->Ex->S}{run:S->Bool}
abbrev qdv(l:Nat):H:=[⟨0,.box [.yld l]⟩,⟨0,.box [.fn 292 [] [.bptr (l+1) 0,.bptr (l+2) 0]]⟩]
theorem ev291{l:Nat}{b7:S->H}(hY:Yld step run l (fun s=>b7 s++qdv l))(hlen:∀s,(b7 s).length=l+1)(hc:∀s,calm (b7 s))(x:Ex)(k:Nat)(hk:∀s,(b7 s)[k]?=some ⟨0,.box x.cells⟩)(hx:x.light=true)(s:S)(hrun:run s=true):ev pg (.call (.fn 291 [] [.bptr k 0]) [.yld l] (b7 s))=some { v:=.tup [],st:=⟨[],b7 (qnp step run 1 x s)⟩ }:=by
 obtain⟨h1,h2⟩:=qdr hx
 have hcb:∀s,calm ((b7 s++qdv l)++[]):=fun s=>by
  rw[List.append_nil]
  exact qhi (hc s) (by simp[hlen];omega)
 have hv:=ev292 hY x 1 s [] hrun (by omega) h1 hcb
 simp only[List.append_nil]at hv
 generalize qnp step run 1 x s=s2 at *
 have t1:=jaq (hlen s)
 have gk:∀z,(b7 s++z)[k]?=some ⟨0,.box x.cells⟩:=fun z=>qha z (hk s)
 have hcut:∀z,qea (l+1) (b7 s2++z)=b7 s2:=fun z=>by
  have:=qfx (hc s2) z
  rwa [hlen]at this
 rw[qaa,pg291]
 simp at hv
 simp[-qea,ir291,hlen,t1,gk,hv,hcut]
end
abbrev qyv(x:Ex):List V:=[x.v,.bptr 0 0,.bptr 1 0,.bptr 2 0,.bptr 3 0,.bptr 4 0,.bptr 5 0,.undef,x.v,.fn 291 [] [.bptr 6 0],.undef,.undef,.undef,.undef,.undef,.undef,.undef,.undef,.undef,.undef,.undef,.undef,.undef,.undef,.undef]
def m7(x:Ex)(s:Nat×Nat):H:=[⟨0,.box x.cells⟩,⟨0,.box [num 0]⟩,⟨0,.box [num 0]⟩,⟨0,.box [.bool false]⟩,⟨0,.box [num s.1]⟩,⟨0,.box [num s.2]⟩,⟨0,.box x.cells⟩,⟨0,.loop (qyv x) [10,11] L276_0 L276_1 (if s.1<=256 then none else some .ret)⟩]
def qfp(s:Nat×Nat)(d:Nat)(_:Ex):Nat×Nat:=(s.1+1,max s.2 d)
def qov(s:Nat×Nat):Bool:=decide (s.1<=256)
theorem q4j{h:H}{k g:Nat}{sl:List V}{ps:List Nat}{a b:C}{p:Option X}(hc:calm h)(hk:h[k]?=some ⟨g,.loop sl ps a b p⟩)(p':Option X):calm (h.set k ⟨g,.loop sl ps a b p'⟩):=by
 rw[qqf]at hc ⊢
 have h1:=hc _ (jR hk)
 intro o ho
 rw[jU]
 rcases jT ho with ho | rfl
 .exact hc o ho
 .simp only[qcf,Ob.mk.injEq,K.loop.injEq,and_true,true_and]at h1 ⊢
  exact h1
theorem z3p(x:Ex):Yld qfp qov 7 (fun s=>m7 x s++qdv 7):=by
 refine⟨fun s=>rfl,fun s=>rfl,fun s=>rfl,fun s d y r hrun hd hy hr=>?_⟩
 have h256:s.1<=256:=by simpa[qov]using hrun
 have e1:ev pg (.code L276_0 ⟨qfo (qyv x) [10,11] [num d,y.v],(m7 x s++qdv 7)++r⟩)=some { st:=⟨qes (qes (qes (qyv x) 10 (num d)) 11 y.v) 7 (num d),(m7 x s++qdv 7)++r⟩ }:=by
  simp[L276_0]
 have wa:=qao (n:=(s.1:Int)+1) (by omega) (by omega)
 have hd':¬((16:Int)<(d:Int)):=by omega
 have e2:∃S2,ev pg (.code L276_1 ⟨qes (qes (qes (qyv x) 10 (num d)) 11 y.v) 7 (num d),((m7 x s++qdv 7)++r).set 7 ⟨0,.loop (qyv x) [10,11] L276_0 L276_1 (some .normal)⟩⟩)=some { x:=if s.1+1<=256 then .normal else .ret,st:=⟨S2,((m7 x (qfp s d y)++qdv 7)++r).set 7 ⟨0,.loop (qyv x) [10,11] L276_0 L276_1 (some .normal)⟩⟩ }:=by
  by_cases h:s.1+1<=256
  .have h':¬((256:Int)<(s.1:Int)+1):=by omega
   simp[m7,L276_1,qfp,wa,h,h',hd']
   split<;>omega
  .have h':(256:Int)<(s.1:Int)+1:=by omega
   simp[m7,L276_1,qfp,wa,h,h']
   split<;>omega
 obtain⟨S2,e2⟩:=e2
 have hr2:=hr (qfp s d y)
 have hcl:=q4j hr2 (k:=7) (g:=0) (sl:=qyv x) (ps:=[10,11]) (a:=L276_0) (b:=L276_1) (p:=if(qfp s d y).1<=256 then none else some .ret) rfl (some .normal)
 have hck:=qgk hcl
 rw[jU]at hck
 have hlen:((m7 x s++qdv 7)++r:H).length=((m7 x (qfp s d y)++qdv 7)++r:H).length:=rfl
 rw[<-hlen]at hck
 have hy2:=zgq (P:=pg) (l:=7) (args:=[num d,y.v]) (h:=(m7 x s++qdv 7)++r) (g:=0) (sl:=qyv x) (ps:=[10,11]) (a:=L276_0) (b:=L276_1) (by simp[m7,h256]) rfl e1 (g1:=0) (sl1:=qyv x) (ps1:=[10,11]) (a1:=L276_0) (b1:=L276_1) (by simp[m7,h256]) e2 (g2:=0) (sl2:=qyv x) (ps2:=[10,11]) (as2:=L276_0) (bd2:=L276_1) (p2:=some .normal) (by
  rw[hck];rfl)
 rw[hck]at hy2
 rw[hy2]
 by_cases h:s.1+1<=256
 .simp[qov,qfp,h,m7]
 .simp[qov,qfp,h,m7]
theorem zxb:∀(x:Ex) (d:Nat) (s:Nat×Nat),s.1+x.nodes<=256->qnp qfp qov d x s=(s.1+x.nodes,max s.2 (d+x.depth-1)):=by
 refine Ex.ind fun x ih d s hs=>?_
 have hn:=qnz x
 have hd:=qqi x
 have hl:∀(l:List Ex) (s:Nat×Nat),(∀y∈l,y∈x.args)->d<=s.2->s.1+qdj l<=256->qgg qfp qov (d+1) l s=(s.1+qdj l,max s.2 (d+qgx l)):=by
  intro l
  induction l with
  | nil =>
   intro s _ hds h
   have e:max s.2 d=s.2:=by omega
   simp[qgg,qdj,qgx,e]
  | cons y l ihl =>
   intro s hsub hds h
   rw[qdj]at h
   rw[qgg,ih y (hsub y (by simp)) (d+1) s (by omega)]
   have hrun:qov (s.1+y.nodes,max s.2 (d+1+y.depth-1))=true:=by simp[qov];omega
   rw[if_pos hrun,ihl _ (fun z hz=>hsub z (by simp[hz])) (by simp only;omega) (by simp only;omega)]
   have hyp:=qkk y
   rw[qdj,qgx]
   simp only[Prod.mk.injEq]
   omega
 rw[q3q]
 have hrun:qov (qfp s d x)=true:=by
  have:=qwz x
  simp[qov,qfp];omega
 rw[if_pos hrun,hl x.args _ (fun y hy=>hy) (by simp only[qfp];omega) (by simp only[qfp];omega),hn,hd]
 simp only[qfp,Prod.mk.injEq]
 omega
theorem ev277(x:Ex)(h:H):ev pg (.call (.fn 277 [] []) [x.v] h)=some { v:=.fn 291 [] [.bptr h.length 0],st:=⟨[],h++[⟨0,.box x.cells⟩]⟩ }:=by
 rw[qaa,pg277]
 simp[ir277]
theorem ev276(x:Ex)(hx:x.light=true):ev pg (.call (.fn 276 [] []) [x.v] [])=some { v:=.tup [num x.nodes,num x.depth,.bool true],st:=⟨[],[]⟩ }:=by
 obtain⟨h1,h2⟩:=qdr hx
 have hd:=qkk x
 have h187:=ev277 x
 have h201:=ev291 (z3p x) (fun _=>rfl) (fun s=>by simp[calm,m7,qcf]) x 6 (fun _=>rfl) hx (0,0) rfl
 rw[zxb x 1 (0,0) (by simp only;omega)]at h201
 have hm:max 0 (1+x.depth-1)=x.depth:=by omega
 rw[hm]at h201
 simp[m7,h1]at h201
 rw[qaa,pg276]
 simp[ir276,h187,qgl,h201,qab,exT,qak]
abbrev qnk(x:Ex)(n:Int):List V:=[x.v,num n,.bptr 0 0,.bptr 1 0,.bptr 2 0,num x.nodes,num x.depth,.bool true,.undef,.undef,.undef,num n,.bool false,.bool false,num n,.bool false,.bool false,.tup [num x.nodes,num x.depth,.bool true],x.v,.tup [num x.nodes,num x.depth,.bool true],num x.nodes,num x.depth,.bool true,.bool true,.bool false,x.v,.fn 291 [] [.bptr 3 0],.undef,.undef,.undef,.undef,.undef,.undef,.undef,.undef]
def m4(x:Ex)(n:Int)(e:Int):H:=[⟨0,.box x.cells⟩,⟨0,.box [num n]⟩,⟨0,.box [num e]⟩,⟨0,.box x.cells⟩,⟨0,.loop (qnk x n) [27,28] L249_0 L249_1 (if e=0 then none else some .ret)⟩]
def qig(n:Int)(_:Int)(_:Nat)(y:Ex):Int:=qbr y.op y.idx y.args.length n
def qnb(e:Int):Bool:=decide (e=0)
abbrev jgj(y:Ex):H:=[⟨0,.arr 0 []⟩,⟨0,.box y.cells⟩]
theorem z3o(x:Ex)(n:Int)(hn:0<=n/\n<=256):Yld (qig n) qnb 4 (fun e=>m4 x n e++qdv 4):=by
 refine⟨fun s=>rfl,fun s=>rfl,fun s=>rfl,fun s d y r hrun hd hy hr=>?_⟩
 obtain rfl:s=0:=by simpa[qnb]using hrun
 have h188:=ev278 y n hy hn
 have e1:∃S1,qai S1 3=.bptr 1 0/\qai S1 4=.bptr 2 0/\qai S1 9=.bptr (7+r.length+1) 0/\S1.length=35/\ev pg (.code L249_0 ⟨qfo (qnk x n) [27,28] [num d,y.v],(m4 x n 0++qdv 4)++r⟩)=some { st:=⟨S1,((m4 x n 0++qdv 4)++r)++[⟨0,.arr 0 []⟩,⟨0,.box y.cells⟩]⟩ }:=by
  have hl0:((m4 x n 0++qdv 4)++r:H).length=7+r.length:=by simp[m4];omega
  generalize (m4 x n 0++qdv 4)++r=G at *
  have t1:=jaq hl0
  simp[L249_0,hl0,t1]
  exact⟨_,rfl,rfl,rfl,rfl,rfl⟩
 obtain⟨S1,g3,g4,g9,hl,e1⟩:=e1
 have e2:∃S2,ev pg (.code L249_1 ⟨S1,(((m4 x n 0++qdv 4)++r)++jgj y).set 4 ⟨0,.loop (qnk x n) [27,28] L249_0 L249_1 (some .normal)⟩⟩)=some { x:=if qbr y.op y.idx y.args.length n=0 then .normal else .ret,st:=⟨S2,(((m4 x n (qbr y.op y.idx y.args.length n)++qdv 4)++r).set 4 ⟨0,.loop (qnk x n) [27,28] L249_0 L249_1 (some .normal)⟩)++jgj y⟩ }:=by
  generalize qbr y.op y.idx y.args.length n=e at *
  have k1:(((m4 x n 0++qdv 4)++r).set 4 ⟨0,.loop (qnk x n) [27,28] L249_0 L249_1 (some .normal)⟩)[1]?=some ⟨0,.box [num n]⟩:=rfl
  have k2:(((m4 x n 0++qdv 4)++r).set 4 ⟨0,.loop (qnk x n) [27,28] L249_0 L249_1 (some .normal)⟩)[2]?=some ⟨0,.box [num 0]⟩:=rfl
  have hl0:(((m4 x n 0++qdv 4)++r).set 4 ⟨0,.loop (qnk x n) [27,28] L249_0 L249_1 (some .normal)⟩:H).length=7+r.length:=by simp[m4];omega
  have s2:∀z,((((m4 x n 0++qdv 4)++r).set 4 ⟨0,.loop (qnk x n) [27,28] L249_0 L249_1 (some .normal)⟩)++z).set 2 ⟨0,.box [num e]⟩=((m4 x n e++qdv 4)++r).set 4 ⟨0,.loop (qnk x n) [27,28] L249_0 L249_1 (some .normal)⟩++z:=fun z=>rfl
  have h0:e=0->((m4 x n 0++qdv 4)++r).set 4 ⟨0,.loop (qnk x n) [27,28] L249_0 L249_1 (some .normal)⟩=((m4 x n e++qdv 4)++r).set 4 ⟨0,.loop (qnk x n) [27,28] L249_0 L249_1 (some .normal)⟩:=fun h=>by rw[h]
  rw[List.set_append_left _ _ (by simp[m4])]
  generalize ((m4 x n 0++qdv 4)++r).set 4 ⟨0,.loop (qnk x n) [27,28] L249_0 L249_1 (some .normal)⟩=G at *
  generalize ((m4 x n e++qdv 4)++r).set 4 ⟨0,.loop (qnk x n) [27,28] L249_0 L249_1 (some .normal)⟩=G2 at *
  have a1:=jgn hl0
  have k1':=fun z=>qha z k1
  have k2':=fun z=>qha z k2
  rw[qad hl]
  by_cases he:e=0
  .rw[h0 he]at *
   simp[-getElem?_pos,L249_1,List.range,List.range.loop,g3,g4,g9,a1,k1',h188,he]
  .simp[-getElem?_pos,L249_1,List.range,List.range.loop,g3,g4,g9,a1,k1',k2',s2,h188,he]
 obtain⟨S2,e2⟩:=e2
 have hr2:=hr (qig n 0 d y)
 have hcl:=q4j hr2 (k:=4) (g:=0) (sl:=qnk x n) (ps:=[27,28]) (a:=L249_0) (b:=L249_1) (p:=if qig n 0 d y=0 then none else some .ret) rfl (some .normal)
 have hck:=qfx hcl [⟨0,.arr 0 []⟩,⟨0,.box y.cells⟩]
 rw[jU]at hck
 have hlen:((m4 x n 0++qdv 4)++r:H).length=((m4 x n (qig n 0 d y)++qdv 4)++r:H).length:=rfl
 rw[<-hlen]at hck
 have hy2:=zgq (P:=pg) (l:=4) (args:=[num d,y.v]) (h:=(m4 x n 0++qdv 4)++r) (g:=0) (sl:=qnk x n) (ps:=[27,28]) (a:=L249_0) (b:=L249_1) (by simp[m4]) rfl e1 (g1:=0) (sl1:=qnk x n) (ps1:=[27,28]) (a1:=L249_0) (b1:=L249_1) (by simp[m4]) e2 (g2:=0) (sl2:=qnk x n) (ps2:=[27,28]) (as2:=L249_0) (bd2:=L249_1) (p2:=some .normal) (by
  show(qea _ (((m4 x n (qig n 0 d y)++qdv 4)++r).set 4 _++_))[4]?=_
  rw[hck];rfl)
 rw[hy2]
 show some ({ v:=_,st:=⟨[],(qea _ (((m4 x n (qig n 0 d y)++qdv 4)++r).set 4 _++_)).set 4 _⟩ }:Am.R)=_
 rw[hck]
 by_cases h:qbr y.op y.idx y.args.length n=0
 .simp[qnb,qig,h,m4]
 .simp[qnb,qig,h,m4]
theorem zxa(n:Int):∀(x:Ex) (d:Nat) (e:Int),qnp (qig n) qnb d x e=x.err n:=by
 refine Ex.ind fun x ih d e=>?_
 rw[q3q,q9q]
 have hl:∀(l:List Ex),(∀y∈l,y∈x.args)->qgg (qig n) qnb (d+1) l 0=q4q n l:=by
  intro l
  induction l with
  | nil=>intro _;simp[qgg,q4q]
  | cons y l ihl =>
   intro hsub
   rw[qgg,ih y (hsub y (by simp)),q4q]
   by_cases h:y.err n=0
   .rw[h,if_pos (by rfl),if_pos rfl]
    exact ihl fun z hz=>hsub z (by simp[hz])
   .rw[if_neg (by simp[qnb,h]),if_neg h]
 show(if qnb (qbr x.op x.idx x.args.length n)=true then qgg (qig n) qnb (d+1) x.args (qbr x.op x.idx x.args.length n)else qbr x.op x.idx x.args.length n)=_
 by_cases h:qbr x.op x.idx x.args.length n=0
 .rw[h,if_pos rfl]
  show qgg (qig n) qnb (d+1) x.args 0=_
  exact hl x.args fun y hy=>hy
 .rw[if_neg (by simp[qnb,h]),if_neg h]
theorem ev249(x:Ex)(n:Int)(hx:x.light=true):ev pg (.call (.fn 249 [] []) [x.v,num n] [])=some { v:=num (x.check n),st:=⟨[],[]⟩ }:=by
 have zne:=ev276 x hx
 have h187:=ev277 x
 rw[qaa,pg249]
 by_cases h1:n<0
 .simp[ir249,Ex.check,h1]
 .by_cases h2:256<n
  .simp[ir249,Ex.check,h1,h2]
  .have h201:=ev291 (z3o x n ⟨by omega,by omega⟩) (fun _=>rfl) (fun s=>by simp[calm,m4,qcf]) x 3 (fun _=>rfl) hx 0 rfl
   rw[zxa]at h201
   have hc:x.check n=x.err n:=by simp[Ex.check,h1,h2,hx]
   rw[hc]
   generalize x.err n=e at *
   by_cases he:e=0
   .subst he
    simp[m4]at h201
    simp[ir249,h1,h2,zne,h187,qgl,h201]
   .simp[m4,he]at h201
    simp[ir249,h1,h2,zne,h187,qgl,h201]
end Go.Proofs.YtbepbclaoohngaaGreat
