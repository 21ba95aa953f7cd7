/- The nodes of an expression, one after the other, by the program. -/
import Derived.Test.YtbepbclaoohngaaGreatEx3
import Derived.Test.YtbepbclaoohngaaGreatEn2
set_option linter.all false
namespace Go.Proofs.YtbepbclaoohngaaGreat
open Go Go.Am Go.Proofs
set_option maxRecDepth 100000
def calm(h:H):Prop:=h.map (qcc h.length)=h
theorem zer{n:Nat}{v:V}(h:qbq n v=v):v.low n=true:=by
 unfold qbq at h
 split at h
 .assumption
 .rw[<-h];rfl
theorem qww{n:Nat}:∀{l:List V},l.map (qbq n)=l->qea n l=true
 | [],_=>rfl
 | v :: l,h=>by
  simp only[List.map_cons,List.cons.injEq]at h
  simp only[qea,zer h.1,qww h.2,Bool.and_self]
theorem q3f{n:Nat}:∀{R:List (List V)},(R.map fun r=>r.map (qbq n))=R->R.all (qea n)=true
 | [],_=>rfl
 | r :: R,h=>by
  simp only[List.map_cons,List.cons.injEq]at h
  simp only[List.all_cons,qww h.1,q3f h.2,Bool.and_self]
theorem zep{m n:Nat}(h:m<=n){R:List (List V)}(e:R.all (qea m)=true):R.all (qea n)=true:=by
 rw[jP]at *
 exact fun r hr=>qch h r (e r hr)
theorem zbv{n:Nat}:∀{R:List (List V)},R.all (qea n)=true->(R.map fun r=>r.map (qbq n))=R
 | [],_=>rfl
 | r :: R,h=>by
  simp only[List.all_cons,jE]at h
  simp only[List.map_cons,qnf h.1,zbv h.2]
theorem q8x{m n:Nat}(hmn:m<=n){o:Ob}(h:qcc m o=o):qcc n o=o:=by
 unfold qcc at h ⊢
 split<;>rename_i hk<;>simp only[hk]at h ⊢
 .rename_i cells
  have h2:=congrArg Ob.k h
  simp only[hk,K.box.injEq]at h2
  rw[qnf (qch hmn _ (qww h2))]
  rw[<-hk]
 .rename_i sl ps a b p
  have h2:=congrArg Ob.k h
  simp only[hk,K.loop.injEq,and_true]at h2
  rw[qnf (qch hmn _ (qww h2))]
  rw[<-hk]
 .rename_i q els
  have h2:=congrArg Ob.k h
  simp only[hk,K.nst.injEq,true_and]at h2
  rw[zbv (zep hmn (q3f h2))]
  rw[<-hk]
theorem zjf{h:H}{f:Ob->Ob}:(h.map f=h)<->∀o∈h,f o=o:=by
 induction h with
 | nil=>simp
 | cons o h ih=>simp[ih]
theorem qqe{h:H}:calm h<->∀o∈h,qcc h.length o=o:=zjf
theorem qhk{h r:H}(hc:calm h)(hr:∀o∈r,qcc (h.length+r.length) o=o):calm (h++r):=by
 rw[qqe]at hc ⊢
 intro o ho
 rw[jF]
 rcases jQ.1 ho with ho | ho
 .exact q8x (Nat.le_add_right _ _) (hc o ho)
 .exact hr o ho
theorem q9y{h:H}(hc:calm h)(r:H):qjm h.length (h++r)=h:=by
 unfold qjm
 rw[List.take_left]
 exact hc
theorem q6a{h:H}(hc:calm h)(r:H):qpm h.length (h++r)=true:=by
 unfold qpm
 rw[List.take_left,jP]
 intro o ho
 have h1:=qqe.1 hc o ho
 unfold qcc at h1
 split<;>try rfl
 .rename_i cells hk
  rw[hk]at h1
  simp only at h1
  have h2:=congrArg Ob.k h1
  simp only[hk,K.box.injEq]at h2
  exact qww h2
 .rename_i q els hk
  rw[hk]at h1
  simp only at h1
  have h2:=congrArg Ob.k h1
  simp only[hk,K.nst.injEq,true_and]at h2
  exact q3f h2
theorem qqh{h:H}(hc:calm h)(r:H):qjn h.length (h++r)=h:=by
 unfold qjn
 rw[if_pos (q6a hc r),q9y hc]
theorem qep{h:H}(hc:calm h)(r:H):qds h.length (h++r)=h:=by
 unfold qds
 rw[if_pos (q6a hc r),q9y hc]
theorem qqd{h:H}(hc:calm h):qjn h.length h=h:=by
 have:=qqh hc []
 rwa [List.append_nil]at this
theorem qgl{h:H}(hc:calm h):qds h.length h=h:=by
 have:=qep hc []
 rwa [List.append_nil]at this
def qaq(s:List V):Prop:=∀v∈s,v ≠ .nils
theorem qas:∀{s:List V},qaq s->∀j,qag s j ≠ .nils
 | [],_,j=>by simp[qag]
 | v :: s,h,0=>h v (by simp)
 | v :: s,h,j+1=>qas (s:=s) (fun w hw=>h w (by simp[hw])) j
theorem qdn:∀{s:List V} {k:Nat} {v:V},qaq s->v ≠ .nils->qaq (qej s k v)
 | [],_,_,h,_=>h
 | x :: s,0,v,h,hv=>fun w hw=>by
  rcases List.mem_cons.1 hw with rfl | hw
  .exact hv
  .exact h w (by simp[hw])
 | x :: s,k+1,v,h,hv=>fun w hw=>by
  rcases List.mem_cons.1 hw with rfl | hw
  .exact h w (by simp)
  .exact qdn (s:=s) (k:=k) (fun u hu=>h u (by simp[hu])) hv w hw
@[simp] theorem qbp(n:Nat):∀(s:List V) (k:Nat),qag (s.map (qbq n)) k=qbq n (qag s k)
 | [],k=>by simp[qag]
 | v :: s,0=>rfl
 | v :: s,k+1=>by simp only[List.map_cons,qag];exact qbp n s k
theorem qpl{n:Nat}{s:List V}(h:qaq s):qaq (s.map (qbq n)):=by
 intro v hv
 obtain⟨w,hw,rfl⟩:=List.mem_map.1 hv
 have:=h w hw
 unfold qbq
 split
 .exact this
 .simp
@[simp] theorem z9r{p:Prop}[Decidable p]{v:V}:((if p then v else V.undef)=.nils)<->(p/\v=.nils):=by
 split<;>simp_all
theorem zhe{P:Prg}{l:Nat}{args:List V}{h:H}{g:Nat}{sl:List V}{ps:List Nat}{a b:C}(hl:h[l]?=some ⟨g,.loop sl ps a b none⟩)(hn:args.length=ps.length){s1:List V}{h1:H}(e1:ev P (.code a ⟨qfn sl ps args,h⟩)=some { st:=⟨s1,h1⟩ }){g1:Nat}{sl1:List V}{ps1:List Nat}{a1 b1:C}(hl1:h1[l]?=some ⟨g1,.loop sl1 ps1 a1 b1 none⟩){r2:R}(e2:ev P (.code b ⟨s1,h1.set l ⟨g1,.loop sl1 ps1 a1 b1 (some .normal)⟩⟩)=some r2){g2:Nat}{sl2:List V}{ps2:List Nat}{as2 bd2:C}{p2:Option X}(h3:(qds h.length r2.st.h)[l]?=some ⟨g2,.loop sl2 ps2 as2 bd2 p2⟩):ev P (.call (.yld l) args h)=some { v:=.bool (decide (r2.x=.normal)),st:=⟨[],(qds h.length r2.st.h).set l ⟨g2,.loop sl2 ps2 as2 bd2 (if r2.x=.normal then none else some r2.x)⟩⟩ }:=by
 rw[qie]
 simp only[qce,hl,hn,if_true,e1,hl1,e2,h3]
 cases r2.x<;>rfl
theorem qga{P:Prg}(f:A)(ps:List Nat)(a b:C)(st:St):ev P (.code (.range f ps a b) st)=(match f.ev (qct st).s with
  | .fn fid first caps =>
   match ev P (.call (.fn fid first caps) [.yld (qct st).h.length] ((qct st).h++[⟨0,.loop (qct st).s ps a b none⟩]))with
   | some r=>match r.st.h[(qct st).h.length]? with
    | some ⟨g,.loop sl2 ps2 as2 bd2 p⟩ =>
     match p with
     | none=>some { st:=⟨(qct st).s,qds (qct st).h.length (r.st.h.set (qct st).h.length ⟨g,.loop sl2 ps2 as2 bd2 (some .normal)⟩)⟩ }
     | some .normal=>none
     | some x=>some { x:=x,st:=⟨(qct st).s,qds (qct st).h.length (r.st.h.set (qct st).h.length ⟨g,.loop sl2 ps2 as2 bd2 (some .normal)⟩)⟩ }
    | _=>none
   | none=>none
  | _=>none):=by rw[qie];rfl
section
variable{S:Type}(step:S->Nat->Ex->S)(run:S->Bool)
mutual
def qnn(d:Nat):Ex->S->S
 | .mk o i l,s=>if run (step s d (.mk o i l))=true then qgj (d+1) l (step s d (.mk o i l))else step s d (.mk o i l)
def qgj(d:Nat):List Ex->S->S
 | [],s=>s
 | y :: r,s=>if run (qnn d y s)=true then qgj d r (qnn d y s)else qnn d y s
end
theorem q3v(d:Nat)(x:Ex)(s:S):qnn step run d x s=if run (step s d x)=true then qgj step run (d+1) x.args (step s d x)else step s d x:=by
 cases x;rw[qnn];rfl
theorem zld{d:Nat}{l:List Ex}{k:Nat}{s:S}(hk:k<l.length):qgj step run d (l.drop k) s=if run (qnn step run d l[k] s)=true then qgj step run d (l.drop (k+1)) (qnn step run d l[k] s)else qnn step run d l[k] s:=by
 rw[jL hk,qgj]
structure Yld(l:Nat)(base:S->H):Prop where
 len:∀s,(base s).length=l+3
 g8:∀s,(base s)[l+1]?=some ⟨0,.box [.yld l]⟩
 g9:∀s,(base s)[l+2]?=some ⟨0,.box [.fn 292 [] [.bptr (l+1) 0,.bptr (l+2) 0]]⟩
 yld:∀s (d:Nat) y r,run s=true->d<=16->y.nodes<=256->(∀s,calm (base s++r))->ev pg (.call (.yld l) [num d,y.v] (base s++r))=some { v:=.bool (run (step s d y)),st:=⟨[],base (step s d y)++r⟩ }
variable{step run}
theorem jeu{h:H}{n:Nat}(hn:h.length=n)(a b:Ob):(h++[a,b])[n+1]?=some b:=by
 rw[jJ (by omega),hn,Nat.add_sub_cancel_left];rfl
theorem jaq{h:H}{n:Nat}(hn:h.length=n)(a:Ob):(h++[a])[n]?=some a:=by
 rw[jJ (by omega),hn,Nat.sub_self];rfl
theorem z9x{h:H}{n:Nat}(hn:h.length=n)(a b c:Ob):(h++[a,b]).set (n+1) c=h++[a,c]:=by
 rw[List.set_append_right _ _ (by omega),hn,Nat.add_sub_cancel_left];rfl
theorem qgy{h:H}{k:Nat}{o:Ob}(r:H)(hk:h[k]?=some o):(h++r)[k]?=some o:=by
 rw[jI (jG.1 hk).1];exact hk
structure Keep202(l:Nat)(x:Ex)(d k:Nat)(st:List V):Prop where
 nn:qaq st
 len:st.length=32
 t1:qag st 1=num d
 t3:qag st 3=.bptr (l+2) 0
 t15:qag st 15=.imm (x.args.map Ex.row)
 t16:qag st 16=num x.args.length
 t17:qag st 17=num k
def jec(l:Nat)(step:S->Nat->Ex->S)(run:S->Bool)(base:S->H)(x:Ex)(d:Nat)(r:H)(s1:S)(k:Nat)(st:St):Prop:=∃s,run s=true/\st.h=base s++(r++[⟨0,.box x.cells⟩])/\Keep202 l x d k st.s/\qgj step run (d+1) x.args s1=qgj step run (d+1) (x.args.drop k) s
def z4m(step:S->Nat->Ex->S)(run:S->Bool)(base:S->H)(x:Ex)(d:Nat)(r:H)(s1:S)(q:Am.R):Prop:=q.st.s.length=32/\∃z,q.st.h=base (qgj step run (d+1) x.args s1)++(r++z)/\((q.x=.exit 0/\run (qgj step run (d+1) x.args s1)=true)\/(q.x=.ret/\qag q.st.s 6=.bool false/\run (qgj step run (d+1) x.args s1)=false))
theorem zvd{l:Nat}{base:S->H}(hY:Yld step run l base)(x:Ex)(d:Nat)(hd:d+x.depth<=17)(hx:x.nodes<=256)(r:H)(hr:∀s,calm (base s++r))
  (ih:∀y∈x.args,∀(d:Nat) (s:S) (r:H),run s=true->d+y.depth<=17->y.nodes<=256->(∀s,calm (base s++r))->ev pg (.call (.fn 292 [] [.bptr (l+1) 0,.bptr (l+2) 0]) [y.v,num d] (base s++r))=some { v:=.bool (run (qnn step run d y s)),st:=⟨[],base (qnn step run d y s)++r⟩ })
  (s1:S) (n:Nat) (hn:n=l+3+(r.length+1)) (st:St) (h0:jec l step run base x d r s1 0 st):∃q,ev pg (.code (.going n L292_0) st)=some q/\z4m step run base x d r s1 q:=by
 have hfew:=qfz hx
 have hrx:∀s,calm (base s++(r++[⟨0,.box x.cells⟩])):=fun s=>by
  rw[<-List.append_assoc]
  exact qhk (hr s) (by simp)
 refine qat (jec l step run base x d r s1) x.args.length (z4m step run base x d r s1) h0 ?_ ?_
 .rintro k ⟨sl,h⟩ hk ⟨s,hrun,rfl,⟨hnn,hl,e1,e3,e15,e16,e17⟩,hw⟩
  simp only at hl e1 e3 e15 e16 e17
  have hnl:∀j,qag sl j ≠ .nils:=qas hnn
  have hk':(k:Int)<x.args.length:=by omega
  have wk:=qbs (k:=k) (by omega)
  have hmem:=jH hk
  have hyd:x.args[k].depth+1<=x.depth:=by
   have h1:=qqi x
   have h2:=qvx.1 (jD (qgv x.args)) _ hmem
   omega
  have hyp:=qkl x.args[k]
  have hd16:(d:Int)<=16:=by omega
  have wd:=qbs (k:=d) (by omega)
  have hry:∀s,calm (base s++(r++[⟨0,.box x.cells⟩,⟨0,.arr 0 []⟩,⟨0,.box x.args[k].cells⟩])):=fun s=>by
   have e:base s++(r++[⟨0,.box x.cells⟩,⟨0,.arr 0 []⟩,⟨0,.box x.args[k].cells⟩])=(base s++(r++[⟨0,.box x.cells⟩]))++[⟨0,.arr 0 []⟩,⟨0,.box x.args[k].cells⟩]:=by simp
   rw[e]
   exact qhk (hrx s) (by simp[qcc])
  have hc:=ih x.args[k] hmem (d+1) s _ hrun (by omega) (qfb hx hmem) hry
  have e0:∀s,base s++(r++[⟨0,.box x.cells⟩,⟨0,.arr 0 []⟩,⟨0,.box x.args[k].cells⟩])=(base s++(r++[⟨0,.box x.cells⟩]))++[⟨0,.arr 0 []⟩,⟨0,.box x.args[k].cells⟩]:=fun s=>by simp
  rw[e0,e0]at hc
  rw[zld step run hk]at hw
  generalize hs2:qnn step run (d+1) x.args[k] s=s2 at *
  have hl0:(base s++(r++[⟨0,.box x.cells⟩]):H).length=n:=by simp[hY.len,hn]
  have hl2:(base s2++(r++[⟨0,.box x.cells⟩]):H).length=n:=by simp[hY.len,hn]
  have g9:=qgy (r++[⟨0,.box x.cells⟩]) (hY.g9 s)
  have hc0:=hrx s
  have hc2:=hrx s2
  have hfin:base s2++(r++[⟨0,.box x.cells⟩,⟨0,.arr 0 []⟩,⟨0,.box x.args[k].cells⟩])=(base s2++(r++[⟨0,.box x.cells⟩]))++[⟨0,.arr 0 []⟩,⟨0,.box x.args[k].cells⟩]:=e0 s2
  have hcut:=qqh hc2
  rw[hl2]at hcut
  generalize hG:base s++(r++[⟨0,.box x.cells⟩])=G at *
  generalize hG2:base s2++(r++[⟨0,.box x.cells⟩])=G2 at *
  have g9':∀z,(G++z)[l+2]?=some ⟨0,.box [.fn 292 [] [.bptr (l+1) 0,.bptr (l+2) 0]]⟩:=fun z=>qgy z g9
  have t1:=z9x hl0
  simp at hc
  rw[qac hl]
  by_cases hb:run s2=true
  .rw[hb]at hc
   rw[if_pos hb]at hw
   simp[-qjn,L292_0,List.range,List.range.loop,e1,e3,e15,e16,e17,hk,hk',hd16,wd,wk,hl0,t1,g9',hc,hcut]
   have h9:l+2<n:=by omega
   exact⟨s2,hb,hG2.symm,⟨by simp[qaq,hnl],rfl,rfl,by simp[h9],rfl,rfl,rfl⟩,hw⟩
  .have hb':run s2=false:=by simpa using hb
   rw[hb']at hc
   rw[if_neg hb]at hw
   simp[-qjn,L292_0,List.range,List.range.loop,e1,e3,e15,e16,e17,hk,hk',hd16,wd,hl0,t1,g9',hc]
   refine⟨rfl,[⟨0,.box x.cells⟩,⟨0,.arr 0 []⟩,⟨0,.box x.args[k].cells⟩],?_,.inr ⟨rfl,rfl,by rw[hw];exact hb'⟩⟩
   rw[hw,hfin]
 .rintro⟨sl,h⟩ ⟨s,hrun,rfl,⟨hnn,hl,e1,e3,e15,e16,e17⟩,hw⟩
  simp only[List.drop_length]at hl e1 e3 e15 e16 e17 hw
  rw[qgj]at hw
  rw[qac hl]
  simp[L292_0,z4m,List.range,List.range.loop,e1,e3,e15,e16,e17,hw,hrun]
theorem ev292{l:Nat}{base:S->H}(hY:Yld step run l base):∀(x:Ex) (d:Nat) (s:S) (r:H),run s=true->d+x.depth<=17->x.nodes<=256->(∀s,calm (base s++r))->ev pg (.call (.fn 292 [] [.bptr (l+1) 0,.bptr (l+2) 0]) [x.v,num d] (base s++r))=some { v:=.bool (run (qnn step run d x s)),st:=⟨[],base (qnn step run d x s)++r⟩ }:=by
 refine Ex.ind fun x ih d s r hrun hd hx hr=>?_
 have hp:=qkl x
 have hrx:∀s,calm (base s++(r++[⟨0,.box x.cells⟩])):=fun s=>by
  rw[<-List.append_assoc]
  exact qhk (hr s) (by simp)
 have hy:=hY.yld s d x (r++[⟨0,.box x.cells⟩]) hrun (by omega) hx hrx
 have hloop:=zvd hY x d hd hx r hr ih (step s d x) (l+3+(r.length+1)) rfl
 rw[q3v]
 generalize hs1:step s d x=s1 at *
 have hl0:(base s++r:H).length=l+3+r.length:=by simp[hY.len]
 have g8:=qgy r (hY.g8 s)
 have gx:=jaq (h:=base s++r) hl0 ⟨0,.box x.cells⟩
 have e0:∀s,base s++(r++[⟨0,.box x.cells⟩])=(base s++r)++[⟨0,.box x.cells⟩]:=fun s=>by simp
 have hcut:∀s z,qds (l+3+r.length) (base s++(r++z))=base s++r:=fun s z=>by
  have:=qep (hr s) z
  rw[List.append_assoc]at this
  rw[show(base s++r:H).length=l+3+r.length by simp[hY.len]]at this
  exact this
 rw[e0]at hy
 rw[qab,pg292]
 have g8':=qgy [⟨0,.box x.cells⟩] g8
 rw[List.append_assoc]at g8' gx
 rw[<-e0]at hy
 by_cases hb:run s1=true
 .rw[hb]at hy
  simp[-qds,ir292,hY.len,g8',hy,qam]
  generalize hq:ev pg (.code (.going _ L292_0) _)=o
  obtain⟨q,rfl,hl,z,hh,hQ⟩:∃q,o=some q/\z4m step run base x d r s1 q:=by
   rw[<-hq]
   refine hloop _ ⟨s1,hb,rfl,⟨?_,?_,?_,?_,?_,?_,?_⟩,rfl⟩
   all_goals simp[qaq]
  rcases hQ with⟨hx,hw⟩ | ⟨hx,h6,hw⟩
  .simp[-qds,hx,hh,hl,hw,hb,hcut]
  .simp[-qds,hx,hh,h6,hw,hb,hcut]
 .have hb':run s1=false:=by simpa using hb
  rw[hb']at hy
  simp[-qds,ir292,hY.len,g8',hy,hb',hcut]
end
end Go.Proofs.YtbepbclaoohngaaGreat
