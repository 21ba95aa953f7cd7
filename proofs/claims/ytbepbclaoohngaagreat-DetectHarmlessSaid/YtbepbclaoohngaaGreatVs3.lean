/- The errors of an expression, by the program. -/
import Derived.Test.YtbepbclaoohngaaGreatVs1
set_option linter.all false
namespace Go.Proofs.YtbepbclaoohngaaGreat
open Go Go.Am Go.Proofs
set_option maxRecDepth 100000
section
variable{S:Type}{step:S->Nat->Ex->S}{run:S->Bool}
abbrev qdq(l:Nat):H:=[⟨0,.box [.yld l]⟩,⟨0,.box [.fn 292 [] [.bptr (l+1) 0,.bptr (l+2) 0]]⟩]
theorem ev291{l:Nat}{b7:S->H}(hY:Yld step run l (fun s=>b7 s++qdq l))(hlen:∀s,(b7 s).length=l+1)(hc:∀s,calm (b7 s))(x:Ex)(k:Nat)(hk:∀s,(b7 s)[k]?=some ⟨0,.box x.cells⟩)(hx:x.light=true)(s:S)(hrun:run s=true):ev pg (.call (.fn 291 [] [.bptr k 0]) [.yld l] (b7 s))=some { v:=.tup [],st:=⟨[],b7 (qnn step run 1 x s)⟩ }:=by
 obtain⟨h1,h2⟩:=qcr hx
 have hcb:∀s,calm ((b7 s++qdq l)++[]):=fun s=>by
  rw[List.append_nil]
  exact qhk (hc s) (by simp[hlen];omega)
 have hv:=ev292 hY x 1 s [] hrun (by omega) h1 hcb
 simp only[List.append_nil]at hv
 generalize qnn step run 1 x s=s2 at *
 have t1:=z9x (hlen s)
 have gk:∀z,(b7 s++z)[k]?=some ⟨0,.box x.cells⟩:=fun z=>qgy z (hk s)
 have hcut:∀z,qds (l+1) (b7 s2++z)=b7 s2:=fun z=>by
  have:=qep (hc s2) z
  rwa [hlen]at this
 rw[qab,pg291]
 simp at hv
 simp[-qds,ir291,hlen,t1,gk,hv,hcut]
end
abbrev qzh(x:Ex):List V:=[x.v,.bptr 0 0,.bptr 1 0,.bptr 2 0,.bptr 3 0,.bptr 4 0,.bptr 5 0,.undef,x.v,.fn 291 [] [.bptr 6 0],.undef,.undef,.undef,.undef,.undef,.undef,.undef,.undef,.undef,.undef,.undef,.undef,.undef,.undef,.undef]
def m7(x:Ex)(s:Nat×Nat):H:=[⟨0,.box x.cells⟩,⟨0,.box [num 0]⟩,⟨0,.box [num 0]⟩,⟨0,.box [.bool false]⟩,⟨0,.box [num s.1]⟩,⟨0,.box [num s.2]⟩,⟨0,.box x.cells⟩,⟨0,.loop (qzh x) [10,11] L276_0 L276_1 (if s.1<=256 then none else some .ret)⟩]
def qfo(s:Nat×Nat)(d:Nat)(_:Ex):Nat×Nat:=(s.1+1,max s.2 d)
def qoy(s:Nat×Nat):Bool:=decide (s.1<=256)
theorem q4k{h:H}{k g:Nat}{sl:List V}{ps:List Nat}{a b:C}{p:Option X}(hc:calm h)(hk:h[k]?=some ⟨g,.loop sl ps a b p⟩)(p':Option X):calm (h.set k ⟨g,.loop sl ps a b p'⟩):=by
 rw[qqe]at hc ⊢
 have h1:=hc _ (jR hk)
 intro o ho
 rw[jU]
 rcases jT ho with ho | rfl
 .exact hc o ho
 .simp only[qcc,Ob.mk.injEq,K.loop.injEq,and_true,true_and]at h1 ⊢
  exact h1
theorem z3v(x:Ex):Yld qfo qoy 7 (fun s=>m7 x s++qdq 7):=by
 refine⟨fun s=>rfl,fun s=>rfl,fun s=>rfl,fun s d y r hrun hd hy hr=>?_⟩
 have h256:s.1<=256:=by simpa[qoy]using hrun
 have e1:ev pg (.code L276_0 ⟨qfn (qzh x) [10,11] [num d,y.v],(m7 x s++qdq 7)++r⟩)=some { st:=⟨qej (qej (qej (qzh x) 10 (num d)) 11 y.v) 7 (num d),(m7 x s++qdq 7)++r⟩ }:=by
  simp[L276_0]
 have wa:=qan (n:=(s.1:Int)+1) (by omega) (by omega)
 have hd':¬((16:Int)<(d:Int)):=by omega
 have e2:∃S2,ev pg (.code L276_1 ⟨qej (qej (qej (qzh x) 10 (num d)) 11 y.v) 7 (num d),((m7 x s++qdq 7)++r).set 7 ⟨0,.loop (qzh x) [10,11] L276_0 L276_1 (some .normal)⟩⟩)=some { x:=if s.1+1<=256 then .normal else .ret,st:=⟨S2,((m7 x (qfo s d y)++qdq 7)++r).set 7 ⟨0,.loop (qzh x) [10,11] L276_0 L276_1 (some .normal)⟩⟩ }:=by
  by_cases h:s.1+1<=256
  .have h':¬((256:Int)<(s.1:Int)+1):=by omega
   simp[m7,L276_1,qfo,wa,h,h',hd']
   split<;>omega
  .have h':(256:Int)<(s.1:Int)+1:=by omega
   simp[m7,L276_1,qfo,wa,h,h']
   split<;>omega
 obtain⟨S2,e2⟩:=e2
 have hr2:=hr (qfo s d y)
 have hcl:=q4k hr2 (k:=7) (g:=0) (sl:=qzh x) (ps:=[10,11]) (a:=L276_0) (b:=L276_1) (p:=if(qfo s d y).1<=256 then none else some .ret) rfl (some .normal)
 have hck:=qgl hcl
 rw[jU]at hck
 have hlen:((m7 x s++qdq 7)++r:H).length=((m7 x (qfo s d y)++qdq 7)++r:H).length:=rfl
 rw[<-hlen]at hck
 have hy2:=zhe (P:=pg) (l:=7) (args:=[num d,y.v]) (h:=(m7 x s++qdq 7)++r) (g:=0) (sl:=qzh x) (ps:=[10,11]) (a:=L276_0) (b:=L276_1) (by simp[m7,h256]) rfl e1 (g1:=0) (sl1:=qzh x) (ps1:=[10,11]) (a1:=L276_0) (b1:=L276_1) (by simp[m7,h256]) e2 (g2:=0) (sl2:=qzh x) (ps2:=[10,11]) (as2:=L276_0) (bd2:=L276_1) (p2:=some .normal) (by
  rw[hck];rfl)
 rw[hck]at hy2
 rw[hy2]
 by_cases h:s.1+1<=256
 .simp[qoy,qfo,h,m7]
 .simp[qoy,qfo,h,m7]
theorem zxm:∀(x:Ex) (d:Nat) (s:Nat×Nat),s.1+x.nodes<=256->qnn qfo qoy d x s=(s.1+x.nodes,max s.2 (d+x.depth-1)):=by
 refine Ex.ind fun x ih d s hs=>?_
 have hn:=qob x
 have hd:=qqi x
 have hl:∀(l:List Ex) (s:Nat×Nat),(∀y∈l,y∈x.args)->d<=s.2->s.1+qdj l<=256->qgj qfo qoy (d+1) l s=(s.1+qdj l,max s.2 (d+qgv l)):=by
  intro l
  induction l with
  | nil =>
   intro s _ hds h
   have e:max s.2 d=s.2:=by omega
   simp[qgj,qdj,qgv,e]
  | cons y l ihl =>
   intro s hsub hds h
   rw[qdj]at h
   rw[qgj,ih y (hsub y (by simp)) (d+1) s (by omega)]
   have hrun:qoy (s.1+y.nodes,max s.2 (d+1+y.depth-1))=true:=by simp[qoy];omega
   rw[if_pos hrun,ihl _ (fun z hz=>hsub z (by simp[hz])) (by simp only;omega) (by simp only;omega)]
   have hyp:=qkl y
   rw[qdj,qgv]
   simp only[Prod.mk.injEq]
   omega
 rw[q3v]
 have hrun:qoy (qfo s d x)=true:=by
  have:=qxg x
  simp[qoy,qfo];omega
 rw[if_pos hrun,hl x.args _ (fun y hy=>hy) (by simp only[qfo];omega) (by simp only[qfo];omega),hn,hd]
 simp only[qfo,Prod.mk.injEq]
 omega
theorem ev277(x:Ex)(h:H):ev pg (.call (.fn 277 [] []) [x.v] h)=some { v:=.fn 291 [] [.bptr h.length 0],st:=⟨[],h++[⟨0,.box x.cells⟩]⟩ }:=by
 rw[qab,pg277]
 simp[ir277]
theorem ev276(x:Ex)(hx:x.light=true):ev pg (.call (.fn 276 [] []) [x.v] [])=some { v:=.tup [num x.nodes,num x.depth,.bool true],st:=⟨[],[]⟩ }:=by
 obtain⟨h1,h2⟩:=qcr hx
 have hd:=qkl x
 have h187:=ev277 x
 have h201:=ev291 (z3v x) (fun _=>rfl) (fun s=>by simp[calm,m7,qcc]) x 6 (fun _=>rfl) hx (0,0) rfl
 rw[zxm x 1 (0,0) (by simp only;omega)]at h201
 have hm:max 0 (1+x.depth-1)=x.depth:=by omega
 rw[hm]at h201
 simp[m7,h1]at h201
 rw[qab,pg276]
 simp[ir276,h187,qga,h201,qaa,exT,qak]
abbrev qnh(x:Ex)(n:Int):List V:=[x.v,num n,.bptr 0 0,.bptr 1 0,.bptr 2 0,num x.nodes,num x.depth,.bool true,.undef,.undef,.undef,num n,.bool false,.bool false,num n,.bool false,.bool false,.tup [num x.nodes,num x.depth,.bool true],x.v,.tup [num x.nodes,num x.depth,.bool true],num x.nodes,num x.depth,.bool true,.bool true,.bool false,x.v,.fn 291 [] [.bptr 3 0],.undef,.undef,.undef,.undef,.undef,.undef,.undef,.undef]
def m4(x:Ex)(n:Int)(e:Int):H:=[⟨0,.box x.cells⟩,⟨0,.box [num n]⟩,⟨0,.box [num e]⟩,⟨0,.box x.cells⟩,⟨0,.loop (qnh x n) [27,28] L249_0 L249_1 (if e=0 then none else some .ret)⟩]
def qii(n:Int)(_:Int)(_:Nat)(y:Ex):Int:=qbr y.op y.idx y.args.length n
def qnb(e:Int):Bool:=decide (e=0)
abbrev jeq(y:Ex):H:=[⟨0,.arr 0 []⟩,⟨0,.box y.cells⟩]
theorem z3u(x:Ex)(n:Int)(hn:0<=n/\n<=256):Yld (qii n) qnb 4 (fun e=>m4 x n e++qdq 4):=by
 refine⟨fun s=>rfl,fun s=>rfl,fun s=>rfl,fun s d y r hrun hd hy hr=>?_⟩
 obtain rfl:s=0:=by simpa[qnb]using hrun
 have h188:=ev278 y n hy hn
 have e1:∃S1,qag S1 3=.bptr 1 0/\qag S1 4=.bptr 2 0/\qag S1 9=.bptr (7+r.length+1) 0/\S1.length=35/\ev pg (.code L249_0 ⟨qfn (qnh x n) [27,28] [num d,y.v],(m4 x n 0++qdq 4)++r⟩)=some { st:=⟨S1,((m4 x n 0++qdq 4)++r)++[⟨0,.arr 0 []⟩,⟨0,.box y.cells⟩]⟩ }:=by
  have hl0:((m4 x n 0++qdq 4)++r:H).length=7+r.length:=by simp[m4];omega
  generalize (m4 x n 0++qdq 4)++r=G at *
  have t1:=z9x hl0
  simp[L249_0,hl0,t1]
  exact⟨_,rfl,rfl,rfl,rfl,rfl⟩
 obtain⟨S1,g3,g4,g9,hl,e1⟩:=e1
 have e2:∃S2,ev pg (.code L249_1 ⟨S1,(((m4 x n 0++qdq 4)++r)++jeq y).set 4 ⟨0,.loop (qnh x n) [27,28] L249_0 L249_1 (some .normal)⟩⟩)=some { x:=if qbr y.op y.idx y.args.length n=0 then .normal else .ret,st:=⟨S2,(((m4 x n (qbr y.op y.idx y.args.length n)++qdq 4)++r).set 4 ⟨0,.loop (qnh x n) [27,28] L249_0 L249_1 (some .normal)⟩)++jeq y⟩ }:=by
  generalize qbr y.op y.idx y.args.length n=e at *
  have k1:(((m4 x n 0++qdq 4)++r).set 4 ⟨0,.loop (qnh x n) [27,28] L249_0 L249_1 (some .normal)⟩)[1]?=some ⟨0,.box [num n]⟩:=rfl
  have k2:(((m4 x n 0++qdq 4)++r).set 4 ⟨0,.loop (qnh x n) [27,28] L249_0 L249_1 (some .normal)⟩)[2]?=some ⟨0,.box [num 0]⟩:=rfl
  have hl0:(((m4 x n 0++qdq 4)++r).set 4 ⟨0,.loop (qnh x n) [27,28] L249_0 L249_1 (some .normal)⟩:H).length=7+r.length:=by simp[m4];omega
  have s2:∀z,((((m4 x n 0++qdq 4)++r).set 4 ⟨0,.loop (qnh x n) [27,28] L249_0 L249_1 (some .normal)⟩)++z).set 2 ⟨0,.box [num e]⟩=((m4 x n e++qdq 4)++r).set 4 ⟨0,.loop (qnh x n) [27,28] L249_0 L249_1 (some .normal)⟩++z:=fun z=>rfl
  have h0:e=0->((m4 x n 0++qdq 4)++r).set 4 ⟨0,.loop (qnh x n) [27,28] L249_0 L249_1 (some .normal)⟩=((m4 x n e++qdq 4)++r).set 4 ⟨0,.loop (qnh x n) [27,28] L249_0 L249_1 (some .normal)⟩:=fun h=>by rw[h]
  rw[List.set_append_left _ _ (by simp[m4])]
  generalize ((m4 x n 0++qdq 4)++r).set 4 ⟨0,.loop (qnh x n) [27,28] L249_0 L249_1 (some .normal)⟩=G at *
  generalize ((m4 x n e++qdq 4)++r).set 4 ⟨0,.loop (qnh x n) [27,28] L249_0 L249_1 (some .normal)⟩=G2 at *
  have a1:=jeu hl0
  have k1':=fun z=>qgy z k1
  have k2':=fun z=>qgy z k2
  rw[qac hl]
  by_cases he:e=0
  .rw[h0 he]at *
   simp[-getElem?_pos,L249_1,List.range,List.range.loop,g3,g4,g9,a1,k1',h188,he]
  .simp[-getElem?_pos,L249_1,List.range,List.range.loop,g3,g4,g9,a1,k1',k2',s2,h188,he]
 obtain⟨S2,e2⟩:=e2
 have hr2:=hr (qii n 0 d y)
 have hcl:=q4k hr2 (k:=4) (g:=0) (sl:=qnh x n) (ps:=[27,28]) (a:=L249_0) (b:=L249_1) (p:=if qii n 0 d y=0 then none else some .ret) rfl (some .normal)
 have hck:=qep hcl [⟨0,.arr 0 []⟩,⟨0,.box y.cells⟩]
 rw[jU]at hck
 have hlen:((m4 x n 0++qdq 4)++r:H).length=((m4 x n (qii n 0 d y)++qdq 4)++r:H).length:=rfl
 rw[<-hlen]at hck
 have hy2:=zhe (P:=pg) (l:=4) (args:=[num d,y.v]) (h:=(m4 x n 0++qdq 4)++r) (g:=0) (sl:=qnh x n) (ps:=[27,28]) (a:=L249_0) (b:=L249_1) (by simp[m4]) rfl e1 (g1:=0) (sl1:=qnh x n) (ps1:=[27,28]) (a1:=L249_0) (b1:=L249_1) (by simp[m4]) e2 (g2:=0) (sl2:=qnh x n) (ps2:=[27,28]) (as2:=L249_0) (bd2:=L249_1) (p2:=some .normal) (by
  show(qds _ (((m4 x n (qii n 0 d y)++qdq 4)++r).set 4 _++_))[4]?=_
  rw[hck];rfl)
 rw[hy2]
 show some ({ v:=_,st:=⟨[],(qds _ (((m4 x n (qii n 0 d y)++qdq 4)++r).set 4 _++_)).set 4 _⟩ }:Am.R)=_
 rw[hck]
 by_cases h:qbr y.op y.idx y.args.length n=0
 .simp[qnb,qii,h,m4]
 .simp[qnb,qii,h,m4]
theorem zxl(n:Int):∀(x:Ex) (d:Nat) (e:Int),qnn (qii n) qnb d x e=x.err n:=by
 refine Ex.ind fun x ih d e=>?_
 rw[q3v,zae]
 have hl:∀(l:List Ex),(∀y∈l,y∈x.args)->qgj (qii n) qnb (d+1) l 0=q4s n l:=by
  intro l
  induction l with
  | nil=>intro _;simp[qgj,q4s]
  | cons y l ihl =>
   intro hsub
   rw[qgj,ih y (hsub y (by simp)),q4s]
   by_cases h:y.err n=0
   .rw[h,if_pos (by rfl),if_pos rfl]
    exact ihl fun z hz=>hsub z (by simp[hz])
   .rw[if_neg (by simp[qnb,h]),if_neg h]
 show(if qnb (qbr x.op x.idx x.args.length n)=true then qgj (qii n) qnb (d+1) x.args (qbr x.op x.idx x.args.length n)else qbr x.op x.idx x.args.length n)=_
 by_cases h:qbr x.op x.idx x.args.length n=0
 .rw[h,if_pos rfl]
  show qgj (qii n) qnb (d+1) x.args 0=_
  exact hl x.args fun y hy=>hy
 .rw[if_neg (by simp[qnb,h]),if_neg h]
theorem ev249(x:Ex)(n:Int)(hx:x.light=true):ev pg (.call (.fn 249 [] []) [x.v,num n] [])=some { v:=num (x.check n),st:=⟨[],[]⟩ }:=by
 have znr:=ev276 x hx
 have h187:=ev277 x
 rw[qab,pg249]
 by_cases h1:n<0
 .simp[ir249,Ex.check,h1]
 .by_cases h2:256<n
  .simp[ir249,Ex.check,h1,h2]
  .have h201:=ev291 (z3u x n ⟨by omega,by omega⟩) (fun _=>rfl) (fun s=>by simp[calm,m4,qcc]) x 3 (fun _=>rfl) hx 0 rfl
   rw[zxl]at h201
   have hc:x.check n=x.err n:=by simp[Ex.check,h1,h2,hx]
   rw[hc]
   generalize x.err n=e at *
   by_cases he:e=0
   .subst he
    simp[m4]at h201
    simp[ir249,h1,h2,znr,h187,qga,h201]
   .simp[m4,he]at h201
    simp[ir249,h1,h2,znr,h187,qga,h201]
end Go.Proofs.YtbepbclaoohngaaGreat
