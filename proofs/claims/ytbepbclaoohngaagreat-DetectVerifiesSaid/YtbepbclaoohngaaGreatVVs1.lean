/- The nodes of an expression, one after the other, by the program. -/
import Derived.Test.YtbepbclaoohngaaGreatVEx3
import Derived.Test.YtbepbclaoohngaaGreatVEn2
set_option linter.all false
namespace Go.Proofs.YtbepbclaoohngaaGreat
open Go Go.Am Go.Proofs
set_option maxRecDepth 100000
def calm(h:H):Prop:=h.map (qcf h.length)=h
theorem zdl{n:Nat}{v:V}(h:qbr n v=v):v.low n=true:=by
 unfold qbr at h
 split at h
 .assumption
 .rw[<-h];rfl
theorem qwf{n:Nat}:∀{l:List V},l.map (qbr n)=l->qeo n l=true
 | [],_=>rfl
 | v :: l,h=>by
  simp only[List.map_cons,List.cons.injEq]at h
  simp only[qeo,zdl h.1,qwf h.2,Bool.and_self]
theorem q2c{n:Nat}:∀{R:List (List V)},(R.map fun r=>r.map (qbr n))=R->R.all (qeo n)=true
 | [],_=>rfl
 | r :: R,h=>by
  simp only[List.map_cons,List.cons.injEq]at h
  simp only[List.all_cons,qwf h.1,q2c h.2,Bool.and_self]
theorem zdk{m n:Nat}(h:m<=n){R:List (List V)}(e:R.all (qeo m)=true):R.all (qeo n)=true:=by
 rw[jP]at *
 exact fun r hr=>qcm h r (e r hr)
theorem zam{n:Nat}:∀{R:List (List V)},R.all (qeo n)=true->(R.map fun r=>r.map (qbr n))=R
 | [],_=>rfl
 | r :: R,h=>by
  simp only[List.all_cons,jE]at h
  simp only[List.map_cons,qmw h.1,zam h.2]
theorem q7t{m n:Nat}(hmn:m<=n){o:Ob}(h:qcf m o=o):qcf n o=o:=by
 unfold qcf at h ⊢
 split<;>rename_i hk<;>simp only[hk]at h ⊢
 .rename_i cells
  have h2:=congrArg Ob.k h
  simp only[hk,K.box.injEq]at h2
  rw[qmw (qcm hmn _ (qwf h2))]
  rw[<-hk]
 .rename_i sl ps a b p
  have h2:=congrArg Ob.k h
  simp only[hk,K.loop.injEq,and_true]at h2
  rw[qmw (qcm hmn _ (qwf h2))]
  rw[<-hk]
 .rename_i q els
  have h2:=congrArg Ob.k h
  simp only[hk,K.nst.injEq,true_and]at h2
  rw[zam (zdk hmn (q2c h2))]
  rw[<-hk]
theorem zhy{h:H}{f:Ob->Ob}:(h.map f=h)<->∀o∈h,f o=o:=by
 induction h with
 | nil=>simp
 | cons o h ih=>simp[ih]
theorem qpw{h:H}:calm h<->∀o∈h,qcf h.length o=o:=zhy
theorem qhg{h r:H}(hc:calm h)(hr:∀o∈r,qcf (h.length+r.length) o=o):calm (h++r):=by
 rw[qpw]at hc ⊢
 intro o ho
 rw[jF]
 rcases jQ.1 ho with ho | ho
 .exact q7t (Nat.le_add_right _ _) (hc o ho)
 .exact hr o ho
theorem q8t{h:H}(hc:calm h)(r:H):qjd h.length (h++r)=h:=by
 unfold qjd
 rw[List.take_left]
 exact hc
theorem q4y{h:H}(hc:calm h)(r:H):qsh h.length (h++r)=true:=by
 unfold qsh
 rw[List.take_left,jP]
 intro o ho
 have h1:=qpw.1 hc o ho
 unfold qcf at h1
 split<;>try rfl
 .rename_i cells hk
  rw[hk]at h1
  simp only at h1
  have h2:=congrArg Ob.k h1
  simp only[hk,K.box.injEq]at h2
  exact qwf h2
 .rename_i q els hk
  rw[hk]at h1
  simp only at h1
  have h2:=congrArg Ob.k h1
  simp only[hk,K.nst.injEq,true_and]at h2
  exact q2c h2
theorem qpy{h:H}(hc:calm h)(r:H):qje h.length (h++r)=h:=by
 unfold qje
 rw[if_pos (q4y hc r),q8t hc]
theorem qfj{h:H}(hc:calm h)(r:H):qef h.length (h++r)=h:=by
 unfold qef
 rw[if_pos (q4y hc r),q8t hc]
theorem qpv{h:H}(hc:calm h):qje h.length h=h:=by
 have:=qpy hc []
 rwa [List.append_nil]at this
theorem qge{h:H}(hc:calm h):qef h.length h=h:=by
 have:=qfj hc []
 rwa [List.append_nil]at this
def qas(s:List V):Prop:=∀v∈s,v ≠ .nils
theorem qar:∀{s:List V},qas s->∀j,qai s j ≠ .nils
 | [],_,j=>by simp[qai]
 | v :: s,h,0=>h v (by simp)
 | v :: s,h,j+1=>qar (s:=s) (fun w hw=>h w (by simp[hw])) j
theorem qej:∀{s:List V} {k:Nat} {v:V},qas s->v ≠ .nils->qas (qer s k v)
 | [],_,_,h,_=>h
 | x :: s,0,v,h,hv=>fun w hw=>by
  rcases List.mem_cons.1 hw with rfl | hw
  .exact hv
  .exact h w (by simp[hw])
 | x :: s,k+1,v,h,hv=>fun w hw=>by
  rcases List.mem_cons.1 hw with rfl | hw
  .exact h w (by simp)
  .exact qej (s:=s) (k:=k) (fun u hu=>h u (by simp[hu])) hv w hw
@[simp] theorem qbo(n:Nat):∀(s:List V) (k:Nat),qai (s.map (qbr n)) k=qbr n (qai s k)
 | [],k=>by simp[qai]
 | v :: s,0=>rfl
 | v :: s,k+1=>by simp only[List.map_cons,qai];exact qbo n s k
theorem qpg{n:Nat}{s:List V}(h:qas s):qas (s.map (qbr n)):=by
 intro v hv
 obtain⟨w,hw,rfl⟩:=List.mem_map.1 hv
 have:=h w hw
 unfold qbr
 split
 .exact this
 .simp
@[simp] theorem z9o{p:Prop}[Decidable p]{v:V}:((if p then v else V.undef)=.nils)<->(p/\v=.nils):=by
 split<;>simp_all
theorem zfx{P:Prg}{l:Nat}{args:List V}{h:H}{g:Nat}{sl:List V}{ps:List Nat}{a b:C}(hl:h[l]?=some ⟨g,.loop sl ps a b none⟩)(hn:args.length=ps.length){s1:List V}{h1:H}(e1:ev P (.code a ⟨qfn sl ps args,h⟩)=some { st:=⟨s1,h1⟩ }){g1:Nat}{sl1:List V}{ps1:List Nat}{a1 b1:C}(hl1:h1[l]?=some ⟨g1,.loop sl1 ps1 a1 b1 none⟩){r2:R}(e2:ev P (.code b ⟨s1,h1.set l ⟨g1,.loop sl1 ps1 a1 b1 (some .normal)⟩⟩)=some r2){g2:Nat}{sl2:List V}{ps2:List Nat}{as2 bd2:C}{p2:Option X}(h3:(qef h.length r2.st.h)[l]?=some ⟨g2,.loop sl2 ps2 as2 bd2 p2⟩):ev P (.call (.yld l) args h)=some { v:=.bool (decide (r2.x=.normal)),st:=⟨[],(qef h.length r2.st.h).set l ⟨g2,.loop sl2 ps2 as2 bd2 (if r2.x=.normal then none else some r2.x)⟩⟩ }:=by
 rw[qhx]
 simp only[qch,hl,hn,if_true,e1,hl1,e2,h3]
 cases r2.x<;>rfl
theorem qgf{P:Prg}(f:A)(ps:List Nat)(a b:C)(st:St):ev P (.code (.range f ps a b) st)=(match f.ev (qcy st).s with
  | .fn fid first caps =>
   match ev P (.call (.fn fid first caps) [.yld (qcy st).h.length] ((qcy st).h++[⟨0,.loop (qcy st).s ps a b none⟩]))with
   | some r=>match r.st.h[(qcy st).h.length]? with
    | some ⟨g,.loop sl2 ps2 as2 bd2 p⟩ =>
     match p with
     | none=>some { st:=⟨(qcy st).s,qef (qcy st).h.length (r.st.h.set (qcy st).h.length ⟨g,.loop sl2 ps2 as2 bd2 (some .normal)⟩)⟩ }
     | some .normal=>none
     | some x=>some { x:=x,st:=⟨(qcy st).s,qef (qcy st).h.length (r.st.h.set (qcy st).h.length ⟨g,.loop sl2 ps2 as2 bd2 (some .normal)⟩)⟩ }
    | _=>none
   | none=>none
  | _=>none):=by rw[qhx];rfl
section
variable{S:Type}(step:S->Nat->Ex->S)(run:S->Bool)
mutual
def qng(d:Nat):Ex->S->S
 | .mk o i l,s=>if run (step s d (.mk o i l))=true then qgb (d+1) l (step s d (.mk o i l))else step s d (.mk o i l)
def qgb(d:Nat):List Ex->S->S
 | [],s=>s
 | y :: r,s=>if run (qng d y s)=true then qgb d r (qng d y s)else qng d y s
end
theorem q2o(d:Nat)(x:Ex)(s:S):qng step run d x s=if run (step s d x)=true then qgb step run (d+1) x.args (step s d x)else step s d x:=by
 cases x;rw[qng];rfl
theorem zjp{d:Nat}{l:List Ex}{k:Nat}{s:S}(hk:k<l.length):qgb step run d (l.drop k) s=if run (qng step run d l[k] s)=true then qgb step run d (l.drop (k+1)) (qng step run d l[k] s)else qng step run d l[k] s:=by
 rw[jL hk,qgb]
structure Yld(l:Nat)(base:S->H):Prop where
 len:∀s,(base s).length=l+3
 g8:∀s,(base s)[l+1]?=some ⟨0,.box [.yld l]⟩
 g9:∀s,(base s)[l+2]?=some ⟨0,.box [.fn 292 [] [.bptr (l+1) 0,.bptr (l+2) 0]]⟩
 yld:∀s (d:Nat) y r,run s=true->d<=16->y.nodes<=256->(∀s,calm (base s++r))->ev pg (.call (.yld l) [num d,y.v] (base s++r))=some { v:=.bool (run (step s d y)),st:=⟨[],base (step s d y)++r⟩ }
variable{step run}
theorem jfi{h:H}{n:Nat}(hn:h.length=n)(a b:Ob):(h++[a,b])[n+1]?=some b:=by
 rw[jJ (by omega),hn,Nat.add_sub_cancel_left];rfl
theorem jao{h:H}{n:Nat}(hn:h.length=n)(a:Ob):(h++[a])[n]?=some a:=by
 rw[jJ (by omega),hn,Nat.sub_self];rfl
theorem z9t{h:H}{n:Nat}(hn:h.length=n)(a b c:Ob):(h++[a,b]).set (n+1) c=h++[a,c]:=by
 rw[List.set_append_right _ _ (by omega),hn,Nat.add_sub_cancel_left];rfl
theorem qgw{h:H}{k:Nat}{o:Ob}(r:H)(hk:h[k]?=some o):(h++r)[k]?=some o:=by
 rw[jI (jG.1 hk).1];exact hk
structure Keep202(l:Nat)(x:Ex)(d k:Nat)(st:List V):Prop where
 nn:qas st
 len:st.length=32
 t1:qai st 1=num d
 t3:qai st 3=.bptr (l+2) 0
 t15:qai st 15=.imm (x.args.map Ex.row)
 t16:qai st 16=num x.args.length
 t17:qai st 17=num k
def jeq(l:Nat)(step:S->Nat->Ex->S)(run:S->Bool)(base:S->H)(x:Ex)(d:Nat)(r:H)(s1:S)(k:Nat)(st:St):Prop:=∃s,run s=true/\st.h=base s++(r++[⟨0,.box x.cells⟩])/\Keep202 l x d k st.s/\qgb step run (d+1) x.args s1=qgb step run (d+1) (x.args.drop k) s
def z3e(step:S->Nat->Ex->S)(run:S->Bool)(base:S->H)(x:Ex)(d:Nat)(r:H)(s1:S)(q:Am.R):Prop:=q.st.s.length=32/\∃z,q.st.h=base (qgb step run (d+1) x.args s1)++(r++z)/\((q.x=.exit 0/\run (qgb step run (d+1) x.args s1)=true)\/(q.x=.ret/\qai q.st.s 6=.bool false/\run (qgb step run (d+1) x.args s1)=false))
theorem ztr{l:Nat}{base:S->H}(hY:Yld step run l base)(x:Ex)(d:Nat)(hd:d+x.depth<=17)(hx:x.nodes<=256)(r:H)(hr:∀s,calm (base s++r))
  (ih:∀y∈x.args,∀(d:Nat) (s:S) (r:H),run s=true->d+y.depth<=17->y.nodes<=256->(∀s,calm (base s++r))->ev pg (.call (.fn 292 [] [.bptr (l+1) 0,.bptr (l+2) 0]) [y.v,num d] (base s++r))=some { v:=.bool (run (qng step run d y s)),st:=⟨[],base (qng step run d y s)++r⟩ })
  (s1:S) (n:Nat) (hn:n=l+3+(r.length+1)) (st:St) (h0:jeq l step run base x d r s1 0 st):∃q,ev pg (.code (.going n L292_0) st)=some q/\z3e step run base x d r s1 q:=by
 have hfew:=qfi hx
 have hrx:∀s,calm (base s++(r++[⟨0,.box x.cells⟩])):=fun s=>by
  rw[<-List.append_assoc]
  exact qhg (hr s) (by simp)
 refine qau (jeq l step run base x d r s1) x.args.length (z3e step run base x d r s1) h0 ?_ ?_
 .rintro k ⟨sl,h⟩ hk ⟨s,hrun,rfl,⟨hnn,hl,e1,e3,e15,e16,e17⟩,hw⟩
  simp only at hl e1 e3 e15 e16 e17
  have hnl:∀j,qai sl j ≠ .nils:=qar hnn
  have hk':(k:Int)<x.args.length:=by omega
  have wk:=qbb (k:=k) (by omega)
  have hmem:=jH hk
  have hyd:x.args[k].depth+1<=x.depth:=by
   have h1:=qpz x
   have h2:=qvh.1 (jD (qgt x.args)) _ hmem
   omega
  have hyp:=qkd x.args[k]
  have hd16:(d:Int)<=16:=by omega
  have wd:=qbb (k:=d) (by omega)
  have hry:∀s,calm (base s++(r++[⟨0,.box x.cells⟩,⟨0,.arr 0 []⟩,⟨0,.box x.args[k].cells⟩])):=fun s=>by
   have e:base s++(r++[⟨0,.box x.cells⟩,⟨0,.arr 0 []⟩,⟨0,.box x.args[k].cells⟩])=(base s++(r++[⟨0,.box x.cells⟩]))++[⟨0,.arr 0 []⟩,⟨0,.box x.args[k].cells⟩]:=by simp
   rw[e]
   exact qhg (hrx s) (by simp[qcf])
  have hc:=ih x.args[k] hmem (d+1) s _ hrun (by omega) (qev hx hmem) hry
  have e0:∀s,base s++(r++[⟨0,.box x.cells⟩,⟨0,.arr 0 []⟩,⟨0,.box x.args[k].cells⟩])=(base s++(r++[⟨0,.box x.cells⟩]))++[⟨0,.arr 0 []⟩,⟨0,.box x.args[k].cells⟩]:=fun s=>by simp
  rw[e0,e0]at hc
  rw[zjp step run hk]at hw
  generalize hs2:qng step run (d+1) x.args[k] s=s2 at *
  have hl0:(base s++(r++[⟨0,.box x.cells⟩]):H).length=n:=by simp[hY.len,hn]
  have hl2:(base s2++(r++[⟨0,.box x.cells⟩]):H).length=n:=by simp[hY.len,hn]
  have g9:=qgw (r++[⟨0,.box x.cells⟩]) (hY.g9 s)
  have hc0:=hrx s
  have hc2:=hrx s2
  have hfin:base s2++(r++[⟨0,.box x.cells⟩,⟨0,.arr 0 []⟩,⟨0,.box x.args[k].cells⟩])=(base s2++(r++[⟨0,.box x.cells⟩]))++[⟨0,.arr 0 []⟩,⟨0,.box x.args[k].cells⟩]:=e0 s2
  have hcut:=qpy hc2
  rw[hl2]at hcut
  generalize hG:base s++(r++[⟨0,.box x.cells⟩])=G at *
  generalize hG2:base s2++(r++[⟨0,.box x.cells⟩])=G2 at *
  have g9':∀z,(G++z)[l+2]?=some ⟨0,.box [.fn 292 [] [.bptr (l+1) 0,.bptr (l+2) 0]]⟩:=fun z=>qgw z g9
  have t1:=z9t hl0
  simp at hc
  rw[qad hl]
  by_cases hb:run s2=true
  .rw[hb]at hc
   rw[if_pos hb]at hw
   simp[-qje,L292_0,List.range,List.range.loop,e1,e3,e15,e16,e17,hk,hk',hd16,wd,wk,hl0,t1,g9',hc,hcut]
   have h9:l+2<n:=by omega
   exact⟨s2,hb,hG2.symm,⟨by simp[qas,hnl],rfl,rfl,by simp[h9],rfl,rfl,rfl⟩,hw⟩
  .have hb':run s2=false:=by simpa using hb
   rw[hb']at hc
   rw[if_neg hb]at hw
   simp[-qje,L292_0,List.range,List.range.loop,e1,e3,e15,e16,e17,hk,hk',hd16,wd,hl0,t1,g9',hc]
   refine⟨rfl,[⟨0,.box x.cells⟩,⟨0,.arr 0 []⟩,⟨0,.box x.args[k].cells⟩],?_,.inr ⟨rfl,rfl,by rw[hw];exact hb'⟩⟩
   rw[hw,hfin]
 .rintro⟨sl,h⟩ ⟨s,hrun,rfl,⟨hnn,hl,e1,e3,e15,e16,e17⟩,hw⟩
  simp only[List.drop_length]at hl e1 e3 e15 e16 e17 hw
  rw[qgb]at hw
  rw[qad hl]
  simp[L292_0,z3e,List.range,List.range.loop,e1,e3,e15,e16,e17,hw,hrun]
theorem ev292{l:Nat}{base:S->H}(hY:Yld step run l base):∀(x:Ex) (d:Nat) (s:S) (r:H),run s=true->d+x.depth<=17->x.nodes<=256->(∀s,calm (base s++r))->ev pg (.call (.fn 292 [] [.bptr (l+1) 0,.bptr (l+2) 0]) [x.v,num d] (base s++r))=some { v:=.bool (run (qng step run d x s)),st:=⟨[],base (qng step run d x s)++r⟩ }:=by
 refine Ex.ind fun x ih d s r hrun hd hx hr=>?_
 have hp:=qkd x
 have hrx:∀s,calm (base s++(r++[⟨0,.box x.cells⟩])):=fun s=>by
  rw[<-List.append_assoc]
  exact qhg (hr s) (by simp)
 have hy:=hY.yld s d x (r++[⟨0,.box x.cells⟩]) hrun (by omega) hx hrx
 have hloop:=ztr hY x d hd hx r hr ih (step s d x) (l+3+(r.length+1)) rfl
 rw[q2o]
 generalize hs1:step s d x=s1 at *
 have hl0:(base s++r:H).length=l+3+r.length:=by simp[hY.len]
 have g8:=qgw r (hY.g8 s)
 have gx:=jao (h:=base s++r) hl0 ⟨0,.box x.cells⟩
 have e0:∀s,base s++(r++[⟨0,.box x.cells⟩])=(base s++r)++[⟨0,.box x.cells⟩]:=fun s=>by simp
 have hcut:∀s z,qef (l+3+r.length) (base s++(r++z))=base s++r:=fun s z=>by
  have:=qfj (hr s) z
  rw[List.append_assoc]at this
  rw[show(base s++r:H).length=l+3+r.length by simp[hY.len]]at this
  exact this
 rw[e0]at hy
 rw[qaa,pg292]
 have g8':=qgw [⟨0,.box x.cells⟩] g8
 rw[List.append_assoc]at g8' gx
 rw[<-e0]at hy
 by_cases hb:run s1=true
 .rw[hb]at hy
  simp[-qef,ir292,hY.len,g8',hy,qah]
  generalize hq:ev pg (.code (.going _ L292_0) _)=o
  obtain⟨q,rfl,hl,z,hh,hQ⟩:∃q,o=some q/\z3e step run base x d r s1 q:=by
   rw[<-hq]
   refine hloop _ ⟨s1,hb,rfl,⟨?_,?_,?_,?_,?_,?_,?_⟩,rfl⟩
   all_goals simp[qas]
  rcases hQ with⟨hx,hw⟩ | ⟨hx,h6,hw⟩
  .simp[-qef,hx,hh,hl,hw,hb,hcut]
  .simp[-qef,hx,hh,h6,hw,hb,hcut]
 .have hb':run s1=false:=by simpa using hb
  rw[hb']at hy
  simp[-qef,ir292,hY.len,g8',hy,hb',hcut]
end
end Go.Proofs.YtbepbclaoohngaaGreat
