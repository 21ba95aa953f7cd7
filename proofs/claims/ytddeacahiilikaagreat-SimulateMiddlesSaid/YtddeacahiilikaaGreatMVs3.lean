/- Memory in which nothing above is held: what is cut off above it leaves it as it is. The nodes of an expression, one after the other, by the program. All nodes of an expression; how many, and how deep; the errors of an expression, by the program. The errors of an expression, by the program. -/
import Derived.Test.YtddeacahiilikaaGreatMEx3
import Derived.Test.YtddeacahiilikaaGreatMEn2
set_option linter.all false
namespace Go.Proofs.YtddeacahiilikaaGreat
open Go Go.Am Go.Proofs
set_option maxRecDepth 100000
def qcj(h:H):Prop:=h.map (qbm h.length)=h
theorem q8a{n:Nat}{v:V}(h:qcm n v=v):v.low n=true:=by
 unfold qcm at h
 split at h
 .assumption
 .rw[<-h];rfl
theorem qwx{n:Nat}:∀{l:List V},l.map (qcm n)=l->qew n l=true
 | [],_=>rfl
 | v :: l,h=>by
  simp only[List.map_cons,List.cons.injEq]at h
  simp only[qew,q8a h.1,qwx h.2,Bool.and_self]
theorem qst{m n:Nat}(hmn:m<=n){o:Ob}(h:qbm m o=o):qbm n o=o:=by
 unfold qbm at h ⊢
 split<;>rename_i hk<;>simp only[hk]at h ⊢
 .rename_i cells
  have h2:=congrArg Ob.k h
  simp only[hk,K.box.injEq]at h2
  rw[qij (qct hmn _ (qwx h2))]
  rw[<-hk]
 .rename_i sl ps a b p
  have h2:=congrArg Ob.k h
  simp only[hk,K.loop.injEq,and_true]at h2
  rw[qij (qct hmn _ (qwx h2))]
  rw[<-hk]
theorem zcg{h:H}{f:Ob->Ob}:(h.map f=h)<->∀o∈h,f o=o:=by
 induction h with
 | nil=>simp
 | cons o h ih=>simp[ih]
theorem qhs{h:H}:qcj h<->∀o∈h,qbm h.length o=o:=zcg
theorem qdm{h r:H}(hc:qcj h)(hr:∀o∈r,qbm (h.length+r.length) o=o):qcj (h++r):=by
 rw[qhs]at hc ⊢
 intro o ho
 rw[jF]
 rcases jQ.1 ho with ho | ho
 .exact qst (Nat.le_add_right _ _) (hc o ho)
 .exact hr o ho
theorem q4c{h:H}(hc:qcj h)(r:H):qjn h.length (h++r)=h:=by
 unfold qjn
 rw[List.take_left]
 exact hc
theorem qzw{h:H}(hc:qcj h)(r:H):q2m h.length (h++r)=true:=by
 unfold q2m
 rw[List.take_left,jP]
 intro o ho
 have h1:=qhs.1 hc o ho
 unfold qbm at h1
 split<;>try rfl
 rename_i cells hk
 rw[hk]at h1
 simp only at h1
 have h2:=congrArg Ob.k h1
 simp only[hk,K.box.injEq]at h2
 exact qwx h2
theorem qwj{h:H}(hc:qcj h)(r:H):qay h.length (h++r)=h:=by
 unfold qay
 rw[if_pos (qzw hc r),q4c hc]
theorem qdg{h:H}(hc:qcj h)(r:H):qan h.length (h++r)=h:=by
 unfold qan
 rw[if_pos (qzw hc r),q4c hc]
theorem qga{h:H}(hc:qcj h):qay h.length h=h:=by
 have:=qwj hc []
 rwa [List.append_nil]at this
theorem qdh{h:H}(hc:qcj h):qan h.length h=h:=by
 have:=qdg hc []
 rwa [List.append_nil]at this
def qdc(s:List V):Prop:=∀v∈s,v ≠ .nils
theorem qcb:∀{s:List V},qdc s->∀j,qam s j ≠ .nils
 | [],_,j=>by simp[qam]
 | v :: s,h,0=>h v (by simp)
 | v :: s,h,j+1=>qcb (s:=s) (fun w hw=>h w (by simp[hw])) j
theorem qdz:∀{s:List V} {k:Nat} {v:V},qdc s->v ≠ .nils->qdc (qgi s k v)
 | [],_,_,h,_=>h
 | x :: s,0,v,h,hv=>fun w hw=>by
  rcases List.mem_cons.1 hw with rfl | hw
  .exact hv
  .exact h w (by simp[hw])
 | x :: s,k+1,v,h,hv=>fun w hw=>by
  rcases List.mem_cons.1 hw with rfl | hw
  .exact h w (by simp)
  .exact qdz (s:=s) (k:=k) (fun u hu=>h u (by simp[hu])) hv w hw
@[simp] theorem q7c(n:Nat):∀(s:List V) (k:Nat),qam (s.map (qcm n)) k=qcm n (qam s k)
 | [],k=>by simp[qam]
 | v :: s,0=>rfl
 | v :: s,k+1=>by simp only[List.map_cons,qam];exact q7c n s k
theorem q2k{n:Nat}{s:List V}(h:qdc s):qdc (s.map (qcm n)):=by
 intro v hv
 obtain⟨w,hw,rfl⟩:=List.mem_map.1 hv
 have:=h w hw
 unfold qcm
 split
 .exact this
 .simp
@[simp] theorem z4a{p:Prop}[Decidable p]{v:V}:((if p then v else V.undef)=.nils)<->(p/\v=.nils):=by
 split<;>simp_all
theorem zap{P:Prg}{l:Nat}{args:List V}{h:H}{g:Nat}{sl:List V}{ps:List Nat}{a b:C}(hl:h[l]?=some ⟨g,.loop sl ps a b none⟩)(hn:args.length=ps.length){s1:List V}{h1:H}(e1:ev P (.code a ⟨qey sl ps args,h⟩)=some { st:=⟨s1,h1⟩ }){g1:Nat}{sl1:List V}{ps1:List Nat}{a1 b1:C}(hl1:h1[l]?=some ⟨g1,.loop sl1 ps1 a1 b1 none⟩){r2:R}(e2:ev P (.code b ⟨s1,h1.set l ⟨g1,.loop sl1 ps1 a1 b1 (some .normal)⟩⟩)=some r2){g2:Nat}{sl2:List V}{ps2:List Nat}{as2 bd2:C}{p2:Option X}(h3:(qan h.length r2.st.h)[l]?=some ⟨g2,.loop sl2 ps2 as2 bd2 p2⟩):ev P (.call (.yld l) args h)=some { v:=.bool (decide (r2.x=.normal)),st:=⟨[],(qan h.length r2.st.h).set l ⟨g2,.loop sl2 ps2 as2 bd2 (if r2.x=.normal then none else some r2.x)⟩⟩ }:=by
 rw[qiv]
 simp only[qby,hl,hn,if_true,e1,hl1,e2,h3]
 cases r2.x<;>rfl
theorem qgn{P:Prg}(f:A)(ps:List Nat)(a b:C)(st:St):ev P (.code (.range f ps a b) st)=(match f.ev (qcy st).s with
  | .fn fid first caps =>
   match ev P (.call (.fn fid first caps) [.yld (qcy st).h.length] ((qcy st).h++[⟨0,.loop (qcy st).s ps a b none⟩]))with
   | some r=>match r.st.h[(qcy st).h.length]? with
    | some ⟨g,.loop sl2 ps2 as2 bd2 p⟩ =>
     match p with
     | none=>some { st:=⟨(qcy st).s,qan (qcy st).h.length (r.st.h.set (qcy st).h.length ⟨g,.loop sl2 ps2 as2 bd2 (some .normal)⟩)⟩ }
     | some .normal=>none
     | some x=>some { x:=x,st:=⟨(qcy st).s,qan (qcy st).h.length (r.st.h.set (qcy st).h.length ⟨g,.loop sl2 ps2 as2 bd2 (some .normal)⟩)⟩ }
    | _=>none
   | none=>none
  | _=>none):=by rw[qiv];rfl
section
variable{S:Type}(step:S->Nat->Ex->S)(run:S->Bool)
mutual
def qkt(d:Nat):Ex->S->S
 | .mk o i l,s=>if run (step s d (.mk o i l))=true then qfb (d+1) l (step s d (.mk o i l))else step s d (.mk o i l)
def qfb(d:Nat):List Ex->S->S
 | [],s=>s
 | y :: r,s=>if run (qkt d y s)=true then qfb d r (qkt d y s)else qkt d y s
end
theorem qxt(d:Nat)(x:Ex)(s:S):qkt step run d x s=if run (step s d x)=true then qfb step run (d+1) x.args (step s d x)else step s d x:=by
 cases x;rw[qkt];rfl
theorem zdw{d:Nat}{l:List Ex}{k:Nat}{s:S}(hk:k<l.length):qfb step run d (l.drop k) s=if run (qkt step run d l[k] s)=true then qfb step run d (l.drop (k+1)) (qkt step run d l[k] s)else qkt step run d l[k] s:=by
 rw[jL hk,qfb]
structure Yld(l:Nat)(base:S->H):Prop where
 len:∀s,(base s).length=l+3
 g8:∀s,(base s)[l+1]?=some ⟨0,.box [.yld l]⟩
 g9:∀s,(base s)[l+2]?=some ⟨0,.box [.fn 295 [] [.bptr (l+1) 0,.bptr (l+2) 0]]⟩
 yld:∀s (d:Nat) y r,run s=true->d<=16->y.nodes<=256->(∀s,qcj (base s++r))->ev pg (.call (.yld l) [num d,y.v] (base s++r))=some { v:=.bool (run (step s d y)),st:=⟨[],base (step s d y)++r⟩ }
variable{step run}
theorem z8z{h:H}{n:Nat}(hn:h.length=n)(a b:Ob):(h++[a,b])[n+1]?=some b:=by
 rw[jJ (by omega),hn,Nat.add_sub_cancel_left];rfl
theorem z8n{h:H}{n:Nat}(hn:h.length=n)(a:Ob):(h++[a])[n]?=some a:=by
 rw[jJ (by omega),hn,Nat.sub_self];rfl
theorem z4e{h:H}{n:Nat}(hn:h.length=n)(a b c:Ob):(h++[a,b]).set (n+1) c=h++[a,c]:=by
 rw[List.set_append_right _ _ (by omega),hn,Nat.add_sub_cancel_left];rfl
theorem qgu{h:H}{k:Nat}{o:Ob}(r:H)(hk:h[k]?=some o):(h++r)[k]?=some o:=by
 rw[jI (jG.1 hk).1];exact hk
structure Keep202(l:Nat)(x:Ex)(d k:Nat)(st:List V):Prop where
 nn:qdc st
 len:st.length=32
 t1:qam st 1=num d
 t3:qam st 3=.bptr (l+2) 0
 t15:qam st 15=.imm (x.args.map Ex.row)
 t16:qam st 16=num x.args.length
 t17:qam st 17=num k
def z8k(l:Nat)(step:S->Nat->Ex->S)(run:S->Bool)(base:S->H)(x:Ex)(d:Nat)(r:H)(s1:S)(k:Nat)(st:St):Prop:=∃s,run s=true/\st.h=base s++(r++[⟨0,.box x.cells⟩])/\Keep202 l x d k st.s/\qfb step run (d+1) x.args s1=qfb step run (d+1) (x.args.drop k) s
def zyl(step:S->Nat->Ex->S)(run:S->Bool)(base:S->H)(x:Ex)(d:Nat)(r:H)(s1:S)(q:Am.R):Prop:=q.st.s.length=32/\∃z,q.st.h=base (qfb step run (d+1) x.args s1)++(r++z)/\((q.x=.exit 0/\run (qfb step run (d+1) x.args s1)=true)\/(q.x=.ret/\qam q.st.s 6=.bool false/\run (qfb step run (d+1) x.args s1)=false))
theorem zrh{l:Nat}{base:S->H}(hY:Yld step run l base)(x:Ex)(d:Nat)(hd:d+x.depth<=17)(hx:x.nodes<=256)(r:H)(hr:∀s,qcj (base s++r))
  (ih:∀y∈x.args,∀(d:Nat) (s:S) (r:H),run s=true->d+y.depth<=17->y.nodes<=256->(∀s,qcj (base s++r))->ev pg (.call (.fn 295 [] [.bptr (l+1) 0,.bptr (l+2) 0]) [y.v,num d] (base s++r))=some { v:=.bool (run (qkt step run d y s)),st:=⟨[],base (qkt step run d y s)++r⟩ })
  (s1:S) (n:Nat) (hn:n=l+3+(r.length+1)) (st:St) (h0:z8k l step run base x d r s1 0 st):∃q,ev pg (.code (.going n L295_0) st)=some q/\zyl step run base x d r s1 q:=by
 have hfew:=qer hx
 have hrx:∀s,qcj (base s++(r++[⟨0,.box x.cells⟩])):=fun s=>by
  rw[<-List.append_assoc]
  exact qdm (hr s) (by simp)
 refine qbg (z8k l step run base x d r s1) x.args.length (zyl step run base x d r s1) h0 ?_ ?_
 .rintro k ⟨sl,h⟩ hk ⟨s,hrun,rfl,⟨hnn,hl,e1,e3,e15,e16,e17⟩,hw⟩
  simp only at hl e1 e3 e15 e16 e17
  have hnl:∀j,qam sl j ≠ .nils:=qcb hnn
  have hk':(k:Int)<x.args.length:=by omega
  have wk:=qab (n:=(k:Int)+1) (by omega) (by omega)
  have hmem:=jH hk
  have hyd:x.args[k].depth+1<=x.depth:=by
   have h1:=qms x
   have h2:=qrh.1 (jD (qjo x.args)) _ hmem
   omega
  have hyp:=qid x.args[k]
  have hd16:(d:Int)<=16:=by omega
  have wd:=qab (n:=(d:Int)+1) (by omega) (by omega)
  have hry:∀s,qcj (base s++(r++[⟨0,.box x.cells⟩,⟨0,.arr 0 []⟩,⟨0,.box x.args[k].cells⟩])):=fun s=>by
   have e:base s++(r++[⟨0,.box x.cells⟩,⟨0,.arr 0 []⟩,⟨0,.box x.args[k].cells⟩])=(base s++(r++[⟨0,.box x.cells⟩]))++[⟨0,.arr 0 []⟩,⟨0,.box x.args[k].cells⟩]:=by simp
   rw[e]
   exact qdm (hrx s) (by simp[qbm])
  have hc:=ih x.args[k] hmem (d+1) s _ hrun (by omega) (qee hx hmem) hry
  have e0:∀s,base s++(r++[⟨0,.box x.cells⟩,⟨0,.arr 0 []⟩,⟨0,.box x.args[k].cells⟩])=(base s++(r++[⟨0,.box x.cells⟩]))++[⟨0,.arr 0 []⟩,⟨0,.box x.args[k].cells⟩]:=fun s=>by simp
  rw[e0,e0]at hc
  rw[zdw step run hk]at hw
  generalize hs2:qkt step run (d+1) x.args[k] s=s2 at *
  have hl0:(base s++(r++[⟨0,.box x.cells⟩]):H).length=n:=by simp[hY.len,hn]
  have hl2:(base s2++(r++[⟨0,.box x.cells⟩]):H).length=n:=by simp[hY.len,hn]
  have g9:=qgu (r++[⟨0,.box x.cells⟩]) (hY.g9 s)
  have hc0:=hrx s
  have hc2:=hrx s2
  have hfin:base s2++(r++[⟨0,.box x.cells⟩,⟨0,.arr 0 []⟩,⟨0,.box x.args[k].cells⟩])=(base s2++(r++[⟨0,.box x.cells⟩]))++[⟨0,.arr 0 []⟩,⟨0,.box x.args[k].cells⟩]:=e0 s2
  have hcut:=qwj hc2
  rw[hl2]at hcut
  generalize hG:base s++(r++[⟨0,.box x.cells⟩])=G at *
  generalize hG2:base s2++(r++[⟨0,.box x.cells⟩])=G2 at *
  have g9':∀z,(G++z)[l+2]?=some ⟨0,.box [.fn 295 [] [.bptr (l+1) 0,.bptr (l+2) 0]]⟩:=fun z=>qgu z g9
  have t1:=z4e hl0
  simp at hc
  rw[qae hl]
  by_cases hb:run s2=true
  .rw[hb]at hc
   rw[if_pos hb]at hw
   simp[-qay,L295_0,List.range,List.range.loop,e1,e3,e15,e16,e17,hk,hk',hd16,wd,wk,hl0,t1,g9',hc,hcut]
   have h9:l+2<n:=by omega
   exact⟨s2,hb,hG2.symm,⟨by simp[qdc,hnl],rfl,rfl,by simp[h9],rfl,rfl,rfl⟩,hw⟩
  .have hb':run s2=false:=by simpa using hb
   rw[hb']at hc
   rw[if_neg hb]at hw
   simp[-qay,L295_0,List.range,List.range.loop,e1,e3,e15,e16,e17,hk,hk',hd16,wd,hl0,t1,g9',hc]
   refine⟨rfl,[⟨0,.box x.cells⟩,⟨0,.arr 0 []⟩,⟨0,.box x.args[k].cells⟩],?_,.inr ⟨rfl,rfl,by rw[hw];exact hb'⟩⟩
   rw[hw,hfin]
 .rintro⟨sl,h⟩ ⟨s,hrun,rfl,⟨hnn,hl,e1,e3,e15,e16,e17⟩,hw⟩
  simp only[List.drop_length]at hl e1 e3 e15 e16 e17 hw
  rw[qfb]at hw
  rw[qae hl]
  simp[L295_0,zyl,List.range,List.range.loop,e1,e3,e15,e16,e17,hw,hrun]
theorem ev295{l:Nat}{base:S->H}(hY:Yld step run l base):∀(x:Ex) (d:Nat) (s:S) (r:H),run s=true->d+x.depth<=17->x.nodes<=256->(∀s,qcj (base s++r))->ev pg (.call (.fn 295 [] [.bptr (l+1) 0,.bptr (l+2) 0]) [x.v,num d] (base s++r))=some { v:=.bool (run (qkt step run d x s)),st:=⟨[],base (qkt step run d x s)++r⟩ }:=by
 refine Ex.ind fun x ih d s r hrun hd hx hr=>?_
 have hp:=qid x
 have hrx:∀s,qcj (base s++(r++[⟨0,.box x.cells⟩])):=fun s=>by
  rw[<-List.append_assoc]
  exact qdm (hr s) (by simp)
 have hy:=hY.yld s d x (r++[⟨0,.box x.cells⟩]) hrun (by omega) hx hrx
 have hloop:=zrh hY x d hd hx r hr ih (step s d x) (l+3+(r.length+1)) rfl
 rw[qxt]
 generalize hs1:step s d x=s1 at *
 have hl0:(base s++r:H).length=l+3+r.length:=by simp[hY.len]
 have g8:=qgu r (hY.g8 s)
 have gx:=z8n (h:=base s++r) hl0 ⟨0,.box x.cells⟩
 have e0:∀s,base s++(r++[⟨0,.box x.cells⟩])=(base s++r)++[⟨0,.box x.cells⟩]:=fun s=>by simp
 have hcut:∀s z,qan (l+3+r.length) (base s++(r++z))=base s++r:=fun s z=>by
  have:=qdg (hr s) z
  rw[List.append_assoc]at this
  rw[show(base s++r:H).length=l+3+r.length by simp[hY.len]]at this
  exact this
 rw[e0]at hy
 rw[qac,pg295]
 have g8':=qgu [⟨0,.box x.cells⟩] g8
 rw[List.append_assoc]at g8' gx
 rw[<-e0]at hy
 by_cases hb:run s1=true
 .rw[hb]at hy
  simp[-qan,ir295,hY.len,g8',hy,qaf]
  generalize hq:ev pg (.code (.going _ L295_0) _)=o
  obtain⟨q,rfl,hl,z,hh,hQ⟩:∃q,o=some q/\zyl step run base x d r s1 q:=by
   rw[<-hq]
   refine hloop _ ⟨s1,hb,rfl,⟨?_,?_,?_,?_,?_,?_,?_⟩,rfl⟩
   all_goals simp[qdc]
  rcases hQ with⟨hx,hw⟩ | ⟨hx,h6,hw⟩
  .simp[-qan,hx,hh,hl,hw,hb,hcut]
  .simp[-qan,hx,hh,h6,hw,hb,hcut]
 .have hb':run s1=false:=by simpa using hb
  rw[hb']at hy
  simp[-qan,ir295,hY.len,g8',hy,hb',hcut]
end
section
variable{S:Type}{step:S->Nat->Ex->S}{run:S->Bool}
abbrev qcv(l:Nat):H:=[⟨0,.box [.yld l]⟩,⟨0,.box [.fn 295 [] [.bptr (l+1) 0,.bptr (l+2) 0]]⟩]
theorem ev294{l:Nat}{b7:S->H}(hY:Yld step run l (fun s=>b7 s++qcv l))(hlen:∀s,(b7 s).length=l+1)(hc:∀s,qcj (b7 s))(x:Ex)(k:Nat)(hk:∀s,(b7 s)[k]?=some ⟨0,.box x.cells⟩)(hx:x.light=true)(s:S)(hrun:run s=true):ev pg (.call (.fn 294 [] [.bptr k 0]) [.yld l] (b7 s))=some { v:=.tup [],st:=⟨[],b7 (qkt step run 1 x s)⟩ }:=by
 obtain⟨h1,h2⟩:=qcs hx
 have hcb:∀s,qcj ((b7 s++qcv l)++[]):=fun s=>by
  rw[List.append_nil]
  exact qdm (hc s) (by simp[hlen];omega)
 have hv:=ev295 hY x 1 s [] hrun (by omega) h1 hcb
 simp only[List.append_nil]at hv
 generalize qkt step run 1 x s=s2 at *
 have t1:=z4e (hlen s)
 have gk:∀z,(b7 s++z)[k]?=some ⟨0,.box x.cells⟩:=fun z=>qgu z (hk s)
 have hcut:∀z,qan (l+1) (b7 s2++z)=b7 s2:=fun z=>by
  have:=qdg (hc s2) z
  rwa [hlen]at this
 rw[qac,pg294]
 simp at hv
 simp[-qan,ir294,hlen,t1,gk,hv,hcut]
end
abbrev qty(x:Ex):List V:=[x.v,.bptr 0 0,.bptr 1 0,.bptr 2 0,.bptr 3 0,.bptr 4 0,.bptr 5 0,.undef,x.v,.fn 294 [] [.bptr 6 0],.undef,.undef,.undef,.undef,.undef,.undef,.undef,.undef,.undef,.undef,.undef,.undef,.undef,.undef,.undef]
def m7(x:Ex)(s:Nat×Nat):H:=[⟨0,.box x.cells⟩,⟨0,.box [num 0]⟩,⟨0,.box [num 0]⟩,⟨0,.box [.bool false]⟩,⟨0,.box [num s.1]⟩,⟨0,.box [num s.2]⟩,⟨0,.box x.cells⟩,⟨0,.loop (qty x) [10,11] L271_0 L271_1 (if s.1<=256 then none else some .ret)⟩]
def qel(s:Nat×Nat)(d:Nat)(_:Ex):Nat×Nat:=(s.1+1,max s.2 d)
def qls(s:Nat×Nat):Bool:=decide (s.1<=256)
theorem qyq{h:H}{k g:Nat}{sl:List V}{ps:List Nat}{a b:C}{p:Option X}(hc:qcj h)(hk:h[k]?=some ⟨g,.loop sl ps a b p⟩)(p':Option X):qcj (h.set k ⟨g,.loop sl ps a b p'⟩):=by
 rw[qhs]at hc ⊢
 have h1:=hc _ (jR hk)
 intro o ho
 rw[jU]
 rcases jT ho with ho | rfl
 .exact hc o ho
 .simp only[qbm,Ob.mk.injEq,K.loop.injEq,and_true,true_and]at h1 ⊢
  exact h1
theorem zxx(x:Ex):Yld qel qls 7 (fun s=>m7 x s++qcv 7):=by
 refine⟨fun s=>rfl,fun s=>rfl,fun s=>rfl,fun s d y r hrun hd hy hr=>?_⟩
 have h256:s.1<=256:=by simpa[qls]using hrun
 have e1:ev pg (.code L271_0 ⟨qey (qty x) [10,11] [num d,y.v],(m7 x s++qcv 7)++r⟩)=some { st:=⟨qgi (qgi (qgi (qty x) 10 (num d)) 11 y.v) 7 (num d),(m7 x s++qcv 7)++r⟩ }:=by
  simp[L271_0]
 have wa:=qab (n:=(s.1:Int)+1) (by omega) (by omega)
 have hd':¬((16:Int)<(d:Int)):=by omega
 have e2:∃S2,ev pg (.code L271_1 ⟨qgi (qgi (qgi (qty x) 10 (num d)) 11 y.v) 7 (num d),((m7 x s++qcv 7)++r).set 7 ⟨0,.loop (qty x) [10,11] L271_0 L271_1 (some .normal)⟩⟩)=some { x:=if s.1+1<=256 then .normal else .ret,st:=⟨S2,((m7 x (qel s d y)++qcv 7)++r).set 7 ⟨0,.loop (qty x) [10,11] L271_0 L271_1 (some .normal)⟩⟩ }:=by
  by_cases h:s.1+1<=256
  .have h':¬((256:Int)<(s.1:Int)+1):=by omega
   simp[m7,L271_1,qel,wa,h,h',hd']
   split<;>omega
  .have h':(256:Int)<(s.1:Int)+1:=by omega
   simp[m7,L271_1,qel,wa,h,h']
   split<;>omega
 obtain⟨S2,e2⟩:=e2
 have hr2:=hr (qel s d y)
 have hcl:=qyq hr2 (k:=7) (g:=0) (sl:=qty x) (ps:=[10,11]) (a:=L271_0) (b:=L271_1) (p:=if(qel s d y).1<=256 then none else some .ret) rfl (some .normal)
 have hck:=qdh hcl
 rw[jU]at hck
 have hlen:((m7 x s++qcv 7)++r:H).length=((m7 x (qel s d y)++qcv 7)++r:H).length:=rfl
 rw[<-hlen]at hck
 have hy2:=zap (P:=pg) (l:=7) (args:=[num d,y.v]) (h:=(m7 x s++qcv 7)++r) (g:=0) (sl:=qty x) (ps:=[10,11]) (a:=L271_0) (b:=L271_1) (by simp[m7,h256]) rfl e1 (g1:=0) (sl1:=qty x) (ps1:=[10,11]) (a1:=L271_0) (b1:=L271_1) (by simp[m7,h256]) e2 (g2:=0) (sl2:=qty x) (ps2:=[10,11]) (as2:=L271_0) (bd2:=L271_1) (p2:=some .normal) (by
  rw[hck];rfl)
 rw[hck]at hy2
 rw[hy2]
 by_cases h:s.1+1<=256
 .simp[qls,qel,h,m7]
 .simp[qls,qel,h,m7]
theorem zsv:∀(x:Ex) (d:Nat) (s:Nat×Nat),s.1+x.nodes<=256->qkt qel qls d x s=(s.1+x.nodes,max s.2 (d+x.depth-1)):=by
 refine Ex.ind fun x ih d s hs=>?_
 have hn:=qlc x
 have hd:=qms x
 have hl:∀(l:List Ex) (s:Nat×Nat),(∀y∈l,y∈x.args)->d<=s.2->s.1+qdl l<=256->qfb qel qls (d+1) l s=(s.1+qdl l,max s.2 (d+qjo l)):=by
  intro l
  induction l with
  | nil =>
   intro s _ hds h
   have e:max s.2 d=s.2:=by omega
   simp[qfb,qdl,qjo,e]
  | cons y l ihl =>
   intro s hsub hds h
   rw[qdl]at h
   rw[qfb,ih y (hsub y (by simp)) (d+1) s (by omega)]
   have hrun:qls (s.1+y.nodes,max s.2 (d+1+y.depth-1))=true:=by simp[qls];omega
   rw[if_pos hrun,ihl _ (fun z hz=>hsub z (by simp[hz])) (by simp only;omega) (by simp only;omega)]
   have hyp:=qid y
   rw[qdl,qjo]
   simp only[Prod.mk.injEq]
   omega
 rw[qxt]
 have hrun:qls (qel s d x)=true:=by
  have:=qsd x
  simp[qls,qel];omega
 rw[if_pos hrun,hl x.args _ (fun y hy=>hy) (by simp only[qel];omega) (by simp only[qel];omega),hn,hd]
 simp only[qel,Prod.mk.injEq]
 omega
theorem ev272(x:Ex)(h:H):ev pg (.call (.fn 272 [] []) [x.v] h)=some { v:=.fn 294 [] [.bptr h.length 0],st:=⟨[],h++[⟨0,.box x.cells⟩]⟩ }:=by
 rw[qac,pg272]
 simp[ir272]
theorem ev271(x:Ex)(hx:x.light=true):ev pg (.call (.fn 271 [] []) [x.v] [])=some { v:=.tup [num x.nodes,num x.depth,.bool true],st:=⟨[],[]⟩ }:=by
 obtain⟨h1,h2⟩:=qcs hx
 have hd:=qid x
 have h187:=ev272 x
 have h201:=ev294 (zxx x) (fun _=>rfl) (fun s=>by simp[qcj,m7,qbm]) x 6 (fun _=>rfl) hx (0,0) rfl
 rw[zsv x 1 (0,0) (by simp only;omega)]at h201
 have hm:max 0 (1+x.depth-1)=x.depth:=by omega
 rw[hm]at h201
 simp[m7,h1]at h201
 rw[qac,pg271]
 simp[ir271,h187,qgn,h201,qaa,exT,qad]
abbrev qkr(x:Ex)(n:Int):List V:=[x.v,num n,.bptr 0 0,.bptr 1 0,.bptr 2 0,num x.nodes,num x.depth,.bool true,.undef,.undef,.undef,num n,.bool false,.bool false,num n,.bool false,.bool false,.tup [num x.nodes,num x.depth,.bool true],x.v,.tup [num x.nodes,num x.depth,.bool true],num x.nodes,num x.depth,.bool true,.bool true,.bool false,x.v,.fn 294 [] [.bptr 3 0],.undef,.undef,.undef,.undef,.undef,.undef,.undef,.undef]
def m4(x:Ex)(n:Int)(e:Int):H:=[⟨0,.box x.cells⟩,⟨0,.box [num n]⟩,⟨0,.box [num e]⟩,⟨0,.box x.cells⟩,⟨0,.loop (qkr x n) [27,28] L231_0 L231_1 (if e=0 then none else some .ret)⟩]
def qgk(n:Int)(_:Int)(_:Nat)(y:Ex):Int:=qbk y.op y.idx y.args.length n
def qkk(e:Int):Bool:=decide (e=0)
abbrev z8u(y:Ex):H:=[⟨0,.arr 0 []⟩,⟨0,.box y.cells⟩]
theorem zxw(x:Ex)(n:Int)(hn:0<=n/\n<=256):Yld (qgk n) qkk 4 (fun e=>m4 x n e++qcv 4):=by
 refine⟨fun s=>rfl,fun s=>rfl,fun s=>rfl,fun s d y r hrun hd hy hr=>?_⟩
 obtain rfl:s=0:=by simpa[qkk]using hrun
 have h188:=ev273 y n hy hn
 have e1:∃S1,qam S1 3=.bptr 1 0/\qam S1 4=.bptr 2 0/\qam S1 9=.bptr (7+r.length+1) 0/\S1.length=35/\ev pg (.code L231_0 ⟨qey (qkr x n) [27,28] [num d,y.v],(m4 x n 0++qcv 4)++r⟩)=some { st:=⟨S1,((m4 x n 0++qcv 4)++r)++[⟨0,.arr 0 []⟩,⟨0,.box y.cells⟩]⟩ }:=by
  have hl0:((m4 x n 0++qcv 4)++r:H).length=7+r.length:=by simp[m4];omega
  generalize (m4 x n 0++qcv 4)++r=G at *
  have t1:=z4e hl0
  simp[L231_0,hl0,t1]
  exact⟨_,rfl,rfl,rfl,rfl,rfl⟩
 obtain⟨S1,g3,g4,g9,hl,e1⟩:=e1
 have e2:∃S2,ev pg (.code L231_1 ⟨S1,(((m4 x n 0++qcv 4)++r)++z8u y).set 4 ⟨0,.loop (qkr x n) [27,28] L231_0 L231_1 (some .normal)⟩⟩)=some { x:=if qbk y.op y.idx y.args.length n=0 then .normal else .ret,st:=⟨S2,(((m4 x n (qbk y.op y.idx y.args.length n)++qcv 4)++r).set 4 ⟨0,.loop (qkr x n) [27,28] L231_0 L231_1 (some .normal)⟩)++z8u y⟩ }:=by
  generalize qbk y.op y.idx y.args.length n=e at *
  have k1:(((m4 x n 0++qcv 4)++r).set 4 ⟨0,.loop (qkr x n) [27,28] L231_0 L231_1 (some .normal)⟩)[1]?=some ⟨0,.box [num n]⟩:=rfl
  have k2:(((m4 x n 0++qcv 4)++r).set 4 ⟨0,.loop (qkr x n) [27,28] L231_0 L231_1 (some .normal)⟩)[2]?=some ⟨0,.box [num 0]⟩:=rfl
  have hl0:(((m4 x n 0++qcv 4)++r).set 4 ⟨0,.loop (qkr x n) [27,28] L231_0 L231_1 (some .normal)⟩:H).length=7+r.length:=by simp[m4];omega
  have s2:∀z,((((m4 x n 0++qcv 4)++r).set 4 ⟨0,.loop (qkr x n) [27,28] L231_0 L231_1 (some .normal)⟩)++z).set 2 ⟨0,.box [num e]⟩=((m4 x n e++qcv 4)++r).set 4 ⟨0,.loop (qkr x n) [27,28] L231_0 L231_1 (some .normal)⟩++z:=fun z=>rfl
  have h0:e=0->((m4 x n 0++qcv 4)++r).set 4 ⟨0,.loop (qkr x n) [27,28] L231_0 L231_1 (some .normal)⟩=((m4 x n e++qcv 4)++r).set 4 ⟨0,.loop (qkr x n) [27,28] L231_0 L231_1 (some .normal)⟩:=fun h=>by rw[h]
  rw[List.set_append_left _ _ (by simp[m4])]
  generalize ((m4 x n 0++qcv 4)++r).set 4 ⟨0,.loop (qkr x n) [27,28] L231_0 L231_1 (some .normal)⟩=G at *
  generalize ((m4 x n e++qcv 4)++r).set 4 ⟨0,.loop (qkr x n) [27,28] L231_0 L231_1 (some .normal)⟩=G2 at *
  have a1:=z8z hl0
  have k1':=fun z=>qgu z k1
  have k2':=fun z=>qgu z k2
  rw[qae hl]
  by_cases he:e=0
  .rw[h0 he]at *
   simp[-getElem?_pos,L231_1,List.range,List.range.loop,g3,g4,g9,a1,k1',h188,he]
  .simp[-getElem?_pos,L231_1,List.range,List.range.loop,g3,g4,g9,a1,k1',k2',s2,h188,he]
 obtain⟨S2,e2⟩:=e2
 have hr2:=hr (qgk n 0 d y)
 have hcl:=qyq hr2 (k:=4) (g:=0) (sl:=qkr x n) (ps:=[27,28]) (a:=L231_0) (b:=L231_1) (p:=if qgk n 0 d y=0 then none else some .ret) rfl (some .normal)
 have hck:=qdg hcl [⟨0,.arr 0 []⟩,⟨0,.box y.cells⟩]
 rw[jU]at hck
 have hlen:((m4 x n 0++qcv 4)++r:H).length=((m4 x n (qgk n 0 d y)++qcv 4)++r:H).length:=rfl
 rw[<-hlen]at hck
 have hy2:=zap (P:=pg) (l:=4) (args:=[num d,y.v]) (h:=(m4 x n 0++qcv 4)++r) (g:=0) (sl:=qkr x n) (ps:=[27,28]) (a:=L231_0) (b:=L231_1) (by simp[m4]) rfl e1 (g1:=0) (sl1:=qkr x n) (ps1:=[27,28]) (a1:=L231_0) (b1:=L231_1) (by simp[m4]) e2 (g2:=0) (sl2:=qkr x n) (ps2:=[27,28]) (as2:=L231_0) (bd2:=L231_1) (p2:=some .normal) (by
  show(qan _ (((m4 x n (qgk n 0 d y)++qcv 4)++r).set 4 _++_))[4]?=_
  rw[hck];rfl)
 rw[hy2]
 show some ({ v:=_,st:=⟨[],(qan _ (((m4 x n (qgk n 0 d y)++qcv 4)++r).set 4 _++_)).set 4 _⟩ }:Am.R)=_
 rw[hck]
 by_cases h:qbk y.op y.idx y.args.length n=0
 .simp[qkk,qgk,h,m4]
 .simp[qkk,qgk,h,m4]
theorem zsu(n:Int):∀(x:Ex) (d:Nat) (e:Int),qkt (qgk n) qkk d x e=x.err n:=by
 refine Ex.ind fun x ih d e=>?_
 rw[qxt,q4f]
 have hl:∀(l:List Ex),(∀y∈l,y∈x.args)->qfb (qgk n) qkk (d+1) l 0=qyy n l:=by
  intro l
  induction l with
  | nil=>intro _;simp[qfb,qyy]
  | cons y l ihl =>
   intro hsub
   rw[qfb,ih y (hsub y (by simp)),qyy]
   by_cases h:y.err n=0
   .rw[h,if_pos (by rfl),if_pos rfl]
    exact ihl fun z hz=>hsub z (by simp[hz])
   .rw[if_neg (by simp[qkk,h]),if_neg h]
 show(if qkk (qbk x.op x.idx x.args.length n)=true then qfb (qgk n) qkk (d+1) x.args (qbk x.op x.idx x.args.length n)else qbk x.op x.idx x.args.length n)=_
 by_cases h:qbk x.op x.idx x.args.length n=0
 .rw[h,if_pos rfl]
  show qfb (qgk n) qkk (d+1) x.args 0=_
  exact hl x.args fun y hy=>hy
 .rw[if_neg (by simp[qkk,h]),if_neg h]
theorem ev231(x:Ex)(n:Int)(hx:x.light=true):ev pg (.call (.fn 231 [] []) [x.v,num n] [])=some { v:=num (x.check n),st:=⟨[],[]⟩ }:=by
 have zgq:=ev271 x hx
 have h187:=ev272 x
 rw[qac,pg231]
 by_cases h1:n<0
 .simp[ir231,Ex.check,h1]
 .by_cases h2:256<n
  .simp[ir231,Ex.check,h1,h2]
  .have h201:=ev294 (zxw x n ⟨by omega,by omega⟩) (fun _=>rfl) (fun s=>by simp[qcj,m4,qbm]) x 3 (fun _=>rfl) hx 0 rfl
   rw[zsu]at h201
   have hc:x.check n=x.err n:=by simp[Ex.check,h1,h2,hx]
   rw[hc]
   generalize x.err n=e at *
   by_cases he:e=0
   .subst he
    simp[m4]at h201
    simp[ir231,h1,h2,zgq,h187,qgn,h201]
   .simp[m4,he]at h201
    simp[ir231,h1,h2,zgq,h187,qgn,h201]
end Go.Proofs.YtddeacahiilikaaGreat
