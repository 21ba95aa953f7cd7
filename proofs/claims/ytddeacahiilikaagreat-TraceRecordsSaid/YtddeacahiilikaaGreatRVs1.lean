/- Memory in which nothing above is held: what is cut off above it leaves it as it is. The nodes of an expression, one after the other, by the program. -/
import Derived.Test.YtddeacahiilikaaGreatREx3
import Derived.Test.YtddeacahiilikaaGreatREn2
set_option linter.all false
namespace Go.Proofs.YtddeacahiilikaaGreat
open Go Go.Am Go.Proofs
set_option maxRecDepth 100000
def qdb(h:H):Prop:=h.map (qcf h.length)=h
theorem q5n{n:Nat}{v:V}(h:qco n v=v):v.low n=true:=by
 unfold qco at h
 split at h
 .assumption
 .rw[<-h];rfl
theorem qwa{n:Nat}:∀{l:List V},l.map (qco n)=l->qfl n l=true
 | [],_=>rfl
 | v :: l,h=>by
  simp only[List.map_cons,List.cons.injEq]at h
  simp only[qfl,q5n h.1,qwa h.2,Bool.and_self]
theorem q1b{m n:Nat}(hmn:m<=n){o:Ob}(h:qcf m o=o):qcf n o=o:=by
 unfold qcf at h ⊢
 split<;>rename_i hk<;>simp only[hk]at h ⊢
 .rename_i cells
  have h2:=congrArg Ob.k h
  simp only[hk,K.box.injEq]at h2
  rw[qnw (qda hmn _ (qwa h2))]
  rw[<-hk]
 .rename_i sl ps a b p
  have h2:=congrArg Ob.k h
  simp only[hk,K.loop.injEq,and_true]at h2
  rw[qnw (qda hmn _ (qwa h2))]
  rw[<-hk]
theorem q9i{h:H}{f:Ob->Ob}:(h.map f=h)<->∀o∈h,f o=o:=by
 induction h with
 | nil=>simp
 | cons o h ih=>simp[ih]
theorem qms{h:H}:qdb h<->∀o∈h,qcf h.length o=o:=q9i
theorem qfq{h r:H}(hc:qdb h)(hr:∀o∈r,qcf (h.length+r.length) o=o):qdb (h++r):=by
 rw[qms]at hc ⊢
 intro o ho
 rw[jF]
 rcases jQ.1 ho with ho | ho
 .exact q1b (Nat.le_add_right _ _) (hc o ho)
 .exact hr o ho
theorem q1y{h:H}(hc:qdb h)(r:H):qjl h.length (h++r)=h:=by
 unfold qjl
 rw[List.take_left]
 exact hc
theorem qys{h:H}(hc:qdb h)(r:H):q0r h.length (h++r)=true:=by
 unfold q0r
 rw[List.take_left,jP]
 intro o ho
 have h1:=qms.1 hc o ho
 unfold qcf at h1
 split<;>try rfl
 rename_i cells hk
 rw[hk]at h1
 simp only at h1
 have h2:=congrArg Ob.k h1
 simp only[hk,K.box.injEq]at h2
 exact qwa h2
theorem qvl{h:H}(hc:qdb h)(r:H):qbc h.length (h++r)=h:=by
 unfold qbc
 rw[if_pos (qys hc r),q1y hc]
theorem qgh{h:H}(hc:qdb h)(r:H):qaq h.length (h++r)=h:=by
 unfold qaq
 rw[if_pos (qys hc r),q1y hc]
theorem qmr{h:H}(hc:qdb h):qbc h.length h=h:=by
 have:=qvl hc []
 rwa [List.append_nil]at this
theorem qeo{h:H}(hc:qdb h):qaq h.length h=h:=by
 have:=qgh hc []
 rwa [List.append_nil]at this
def qde(s:List V):Prop:=∀v∈s,v ≠ .nils
theorem qcd:∀{s:List V},qde s->∀j,qao s j ≠ .nils
 | [],_,j=>by simp[qao]
 | v :: s,h,0=>h v (by simp)
 | v :: s,h,j+1=>qcd (s:=s) (fun w hw=>h w (by simp[hw])) j
theorem qed:∀{s:List V} {k:Nat} {v:V},qde s->v ≠ .nils->qde (qhi s k v)
 | [],_,_,h,_=>h
 | x :: s,0,v,h,hv=>fun w hw=>by
  rcases List.mem_cons.1 hw with rfl | hw
  .exact hv
  .exact h w (by simp[hw])
 | x :: s,k+1,v,h,hv=>fun w hw=>by
  rcases List.mem_cons.1 hw with rfl | hw
  .exact h w (by simp)
  .exact qed (s:=s) (k:=k) (fun u hu=>h u (by simp[hu])) hv w hw
@[simp] theorem q4v(n:Nat):∀(s:List V) (k:Nat),qao (s.map (qco n)) k=qco n (qao s k)
 | [],k=>by simp[qao]
 | v :: s,0=>rfl
 | v :: s,k+1=>by simp only[List.map_cons,qao];exact q4v n s k
theorem q0p{n:Nat}{s:List V}(h:qde s):qde (s.map (qco n)):=by
 intro v hv
 obtain⟨w,hw,rfl⟩:=List.mem_map.1 hv
 have:=h w hw
 unfold qco
 split
 .exact this
 .simp
@[simp] theorem zzd{p:Prop}[Decidable p]{v:V}:((if p then v else V.undef)=.nils)<->(p/\v=.nils):=by
 split<;>simp_all
theorem q7u{P:Prg}{l:Nat}{args:List V}{h:H}{g:Nat}{sl:List V}{ps:List Nat}{a b:C}(hl:h[l]?=some ⟨g,.loop sl ps a b none⟩)(hn:args.length=ps.length){s1:List V}{h1:H}(e1:ev P (.code a ⟨qew sl ps args,h⟩)=some { st:=⟨s1,h1⟩ }){g1:Nat}{sl1:List V}{ps1:List Nat}{a1 b1:C}(hl1:h1[l]?=some ⟨g1,.loop sl1 ps1 a1 b1 none⟩){r2:R}(e2:ev P (.code b ⟨s1,h1.set l ⟨g1,.loop sl1 ps1 a1 b1 (some .normal)⟩⟩)=some r2){g2:Nat}{sl2:List V}{ps2:List Nat}{as2 bd2:C}{p2:Option X}(h3:(qaq h.length r2.st.h)[l]?=some ⟨g2,.loop sl2 ps2 as2 bd2 p2⟩):ev P (.call (.yld l) args h)=some { v:=.bool (decide (r2.x=.normal)),st:=⟨[],(qaq h.length r2.st.h).set l ⟨g2,.loop sl2 ps2 as2 bd2 (if r2.x=.normal then none else some r2.x)⟩⟩ }:=by
 rw[qir]
 simp only[qbz,hl,hn,if_true,e1,hl1,e2,h3]
 cases r2.x<;>rfl
theorem qgi{P:Prg}(f:A)(ps:List Nat)(a b:C)(st:St):ev P (.code (.range f ps a b) st)=(match f.ev (qcy st).s with
  | .fn fid first caps =>
   match ev P (.call (.fn fid first caps) [.yld (qcy st).h.length] ((qcy st).h++[⟨0,.loop (qcy st).s ps a b none⟩]))with
   | some r=>match r.st.h[(qcy st).h.length]? with
    | some ⟨g,.loop sl2 ps2 as2 bd2 p⟩ =>
     match p with
     | none=>some { st:=⟨(qcy st).s,qaq (qcy st).h.length (r.st.h.set (qcy st).h.length ⟨g,.loop sl2 ps2 as2 bd2 (some .normal)⟩)⟩ }
     | some .normal=>none
     | some x=>some { x:=x,st:=⟨(qcy st).s,qaq (qcy st).h.length (r.st.h.set (qcy st).h.length ⟨g,.loop sl2 ps2 as2 bd2 (some .normal)⟩)⟩ }
    | _=>none
   | none=>none
  | _=>none):=by rw[qir];rfl
section
variable{S:Type}(step:S->Nat->Ex->S)(run:S->Bool)
mutual
def qkq(d:Nat):Ex->S->S
 | .mk o i l,s=>if run (step s d (.mk o i l))=true then qez (d+1) l (step s d (.mk o i l))else step s d (.mk o i l)
def qez(d:Nat):List Ex->S->S
 | [],s=>s
 | y :: r,s=>if run (qkq d y s)=true then qez d r (qkq d y s)else qkq d y s
end
theorem qwt(d:Nat)(x:Ex)(s:S):qkq step run d x s=if run (step s d x)=true then qez step run (d+1) x.args (step s d x)else step s d x:=by
 cases x;rw[qkq];rfl
theorem zat{d:Nat}{l:List Ex}{k:Nat}{s:S}(hk:k<l.length):qez step run d (l.drop k) s=if run (qkq step run d l[k] s)=true then qez step run d (l.drop (k+1)) (qkq step run d l[k] s)else qkq step run d l[k] s:=by
 rw[jL hk,qez]
structure Yld(l:Nat)(base:S->H):Prop where
 len:∀s,(base s).length=l+3
 g8:∀s,(base s)[l+1]?=some ⟨0,.box [.yld l]⟩
 g9:∀s,(base s)[l+2]?=some ⟨0,.box [.fn 295 [] [.bptr (l+1) 0,.bptr (l+2) 0]]⟩
 yld:∀s (d:Nat) y r,run s=true->d<=16->y.nodes<=256->(∀s,qdb (base s++r))->ev pg (.call (.yld l) [num d,y.v] (base s++r))=some { v:=.bool (run (step s d y)),st:=⟨[],base (step s d y)++r⟩ }
variable{step run}
theorem z2x{h:H}{n:Nat}(hn:h.length=n)(a b:Ob):(h++[a,b])[n+1]?=some b:=by
 rw[jJ (by omega),hn,Nat.add_sub_cancel_left];rfl
theorem z2l{h:H}{n:Nat}(hn:h.length=n)(a:Ob):(h++[a])[n]?=some a:=by
 rw[jJ (by omega),hn,Nat.sub_self];rfl
theorem zzg{h:H}{n:Nat}(hn:h.length=n)(a b c:Ob):(h++[a,b]).set (n+1) c=h++[a,c]:=by
 rw[List.set_append_right _ _ (by omega),hn,Nat.add_sub_cancel_left];rfl
theorem qgp{h:H}{k:Nat}{o:Ob}(r:H)(hk:h[k]?=some o):(h++r)[k]?=some o:=by
 rw[jI (jG.1 hk).1];exact hk
structure Keep202(l:Nat)(x:Ex)(d k:Nat)(st:List V):Prop where
 nn:qde st
 len:st.length=32
 t1:qao st 1=num d
 t3:qao st 3=.bptr (l+2) 0
 t15:qao st 15=.imm (x.args.map Ex.row)
 t16:qao st 16=num x.args.length
 t17:qao st 17=num k
def z2i(l:Nat)(step:S->Nat->Ex->S)(run:S->Bool)(base:S->H)(x:Ex)(d:Nat)(r:H)(s1:S)(k:Nat)(st:St):Prop:=∃s,run s=true/\st.h=base s++(r++[⟨0,.box x.cells⟩])/\Keep202 l x d k st.s/\qez step run (d+1) x.args s1=qez step run (d+1) (x.args.drop k) s
def ztj(step:S->Nat->Ex->S)(run:S->Bool)(base:S->H)(x:Ex)(d:Nat)(r:H)(s1:S)(q:Am.R):Prop:=q.st.s.length=32/\∃z,q.st.h=base (qez step run (d+1) x.args s1)++(r++z)/\((q.x=.exit 0/\run (qez step run (d+1) x.args s1)=true)\/(q.x=.ret/\qao q.st.s 6=.bool false/\run (qez step run (d+1) x.args s1)=false))
theorem znh{l:Nat}{base:S->H}(hY:Yld step run l base)(x:Ex)(d:Nat)(hd:d+x.depth<=17)(hx:x.nodes<=256)(r:H)(hr:∀s,qdb (base s++r))
  (ih:∀y∈x.args,∀(d:Nat) (s:S) (r:H),run s=true->d+y.depth<=17->y.nodes<=256->(∀s,qdb (base s++r))->ev pg (.call (.fn 295 [] [.bptr (l+1) 0,.bptr (l+2) 0]) [y.v,num d] (base s++r))=some { v:=.bool (run (qkq step run d y s)),st:=⟨[],base (qkq step run d y s)++r⟩ })
  (s1:S) (n:Nat) (hn:n=l+3+(r.length+1)) (st:St) (h0:z2i l step run base x d r s1 0 st):∃q,ev pg (.code (.going n L295_0) st)=some q/\ztj step run base x d r s1 q:=by
 have hfew:=qfb hx
 have hrx:∀s,qdb (base s++(r++[⟨0,.box x.cells⟩])):=fun s=>by
  rw[<-List.append_assoc]
  exact qfq (hr s) (by simp)
 refine qbh (z2i l step run base x d r s1) x.args.length (ztj step run base x d r s1) h0 ?_ ?_
 .rintro k ⟨sl,h⟩ hk ⟨s,hrun,rfl,⟨hnn,hl,e1,e3,e15,e16,e17⟩,hw⟩
  simp only at hl e1 e3 e15 e16 e17
  have hnl:∀j,qao sl j ≠ .nils:=qcd hnn
  have hk':(k:Int)<x.args.length:=by omega
  have wk:=qab (n:=(k:Int)+1) (by omega) (by omega)
  have hmem:=jH hk
  have hyd:x.args[k].depth+1<=x.depth:=by
   have h1:=qmu x
   have h2:=qrf.1 (jD (qjm x.args)) _ hmem
   omega
  have hyp:=qib x.args[k]
  have hd16:(d:Int)<=16:=by omega
  have wd:=qab (n:=(d:Int)+1) (by omega) (by omega)
  have hry:∀s,qdb (base s++(r++[⟨0,.box x.cells⟩,⟨0,.arr 0 []⟩,⟨0,.box x.args[k].cells⟩])):=fun s=>by
   have e:base s++(r++[⟨0,.box x.cells⟩,⟨0,.arr 0 []⟩,⟨0,.box x.args[k].cells⟩])=(base s++(r++[⟨0,.box x.cells⟩]))++[⟨0,.arr 0 []⟩,⟨0,.box x.args[k].cells⟩]:=by simp
   rw[e]
   exact qfq (hrx s) (by simp[qcf])
  have hc:=ih x.args[k] hmem (d+1) s _ hrun (by omega) (qex hx hmem) hry
  have e0:∀s,base s++(r++[⟨0,.box x.cells⟩,⟨0,.arr 0 []⟩,⟨0,.box x.args[k].cells⟩])=(base s++(r++[⟨0,.box x.cells⟩]))++[⟨0,.arr 0 []⟩,⟨0,.box x.args[k].cells⟩]:=fun s=>by simp
  rw[e0,e0]at hc
  rw[zat step run hk]at hw
  generalize hs2:qkq step run (d+1) x.args[k] s=s2 at *
  have hl0:(base s++(r++[⟨0,.box x.cells⟩]):H).length=n:=by simp[hY.len,hn]
  have hl2:(base s2++(r++[⟨0,.box x.cells⟩]):H).length=n:=by simp[hY.len,hn]
  have g9:=qgp (r++[⟨0,.box x.cells⟩]) (hY.g9 s)
  have hc0:=hrx s
  have hc2:=hrx s2
  have hfin:base s2++(r++[⟨0,.box x.cells⟩,⟨0,.arr 0 []⟩,⟨0,.box x.args[k].cells⟩])=(base s2++(r++[⟨0,.box x.cells⟩]))++[⟨0,.arr 0 []⟩,⟨0,.box x.args[k].cells⟩]:=e0 s2
  have hcut:=qvl hc2
  rw[hl2]at hcut
  generalize hG:base s++(r++[⟨0,.box x.cells⟩])=G at *
  generalize hG2:base s2++(r++[⟨0,.box x.cells⟩])=G2 at *
  have g9':∀z,(G++z)[l+2]?=some ⟨0,.box [.fn 295 [] [.bptr (l+1) 0,.bptr (l+2) 0]]⟩:=fun z=>qgp z g9
  have t1:=zzg hl0
  simp at hc
  rw[qag hl]
  by_cases hb:run s2=true
  .rw[hb]at hc
   rw[if_pos hb]at hw
   simp[-qbc,L295_0,List.range,List.range.loop,e1,e3,e15,e16,e17,hk,hk',hd16,wd,wk,hl0,t1,g9',hc,hcut]
   have h9:l+2<n:=by omega
   exact⟨s2,hb,hG2.symm,⟨by simp[qde,hnl],rfl,rfl,by simp[h9],rfl,rfl,rfl⟩,hw⟩
  .have hb':run s2=false:=by simpa using hb
   rw[hb']at hc
   rw[if_neg hb]at hw
   simp[-qbc,L295_0,List.range,List.range.loop,e1,e3,e15,e16,e17,hk,hk',hd16,wd,hl0,t1,g9',hc]
   refine⟨rfl,[⟨0,.box x.cells⟩,⟨0,.arr 0 []⟩,⟨0,.box x.args[k].cells⟩],?_,.inr ⟨rfl,rfl,by rw[hw];exact hb'⟩⟩
   rw[hw,hfin]
 .rintro⟨sl,h⟩ ⟨s,hrun,rfl,⟨hnn,hl,e1,e3,e15,e16,e17⟩,hw⟩
  simp only[List.drop_length]at hl e1 e3 e15 e16 e17 hw
  rw[qez]at hw
  rw[qag hl]
  simp[L295_0,ztj,List.range,List.range.loop,e1,e3,e15,e16,e17,hw,hrun]
theorem ev295{l:Nat}{base:S->H}(hY:Yld step run l base):∀(x:Ex) (d:Nat) (s:S) (r:H),run s=true->d+x.depth<=17->x.nodes<=256->(∀s,qdb (base s++r))->ev pg (.call (.fn 295 [] [.bptr (l+1) 0,.bptr (l+2) 0]) [x.v,num d] (base s++r))=some { v:=.bool (run (qkq step run d x s)),st:=⟨[],base (qkq step run d x s)++r⟩ }:=by
 refine Ex.ind fun x ih d s r hrun hd hx hr=>?_
 have hp:=qib x
 have hrx:∀s,qdb (base s++(r++[⟨0,.box x.cells⟩])):=fun s=>by
  rw[<-List.append_assoc]
  exact qfq (hr s) (by simp)
 have hy:=hY.yld s d x (r++[⟨0,.box x.cells⟩]) hrun (by omega) hx hrx
 have hloop:=znh hY x d hd hx r hr ih (step s d x) (l+3+(r.length+1)) rfl
 rw[qwt]
 generalize hs1:step s d x=s1 at *
 have hl0:(base s++r:H).length=l+3+r.length:=by simp[hY.len]
 have g8:=qgp r (hY.g8 s)
 have gx:=z2l (h:=base s++r) hl0 ⟨0,.box x.cells⟩
 have e0:∀s,base s++(r++[⟨0,.box x.cells⟩])=(base s++r)++[⟨0,.box x.cells⟩]:=fun s=>by simp
 have hcut:∀s z,qaq (l+3+r.length) (base s++(r++z))=base s++r:=fun s z=>by
  have:=qgh (hr s) z
  rw[List.append_assoc]at this
  rw[show(base s++r:H).length=l+3+r.length by simp[hY.len]]at this
  exact this
 rw[e0]at hy
 rw[qac,pg295]
 have g8':=qgp [⟨0,.box x.cells⟩] g8
 rw[List.append_assoc]at g8' gx
 rw[<-e0]at hy
 by_cases hb:run s1=true
 .rw[hb]at hy
  simp[-qaq,ir295,hY.len,g8',hy,qaf]
  generalize hq:ev pg (.code (.going _ L295_0) _)=o
  obtain⟨q,rfl,hl,z,hh,hQ⟩:∃q,o=some q/\ztj step run base x d r s1 q:=by
   rw[<-hq]
   refine hloop _ ⟨s1,hb,rfl,⟨?_,?_,?_,?_,?_,?_,?_⟩,rfl⟩
   all_goals simp[qde]
  rcases hQ with⟨hx,hw⟩ | ⟨hx,h6,hw⟩
  .simp[-qaq,hx,hh,hl,hw,hb,hcut]
  .simp[-qaq,hx,hh,h6,hw,hb,hcut]
 .have hb':run s1=false:=by simpa using hb
  rw[hb']at hy
  simp[-qaq,ir295,hY.len,g8',hy,hb',hcut]
end
end Go.Proofs.YtddeacahiilikaaGreat
