/- The errors of an expression, by the program. -/
import Derived.Test.YtbepbclaoohngaaGreatVVs1
set_option linter.all false
namespace Go.Proofs.YtbepbclaoohngaaGreat
open Go Go.Am Go.Proofs
set_option maxRecDepth 100000
section
variable{S:Type}{step:S->Nat->Ex->S}{run:S->Bool}
abbrev qdu(l:Nat):H:=[⟨0,.box [.yld l]⟩,⟨0,.box [.fn 292 [] [.bptr (l+1) 0,.bptr (l+2) 0]]⟩]
theorem ev291{l:Nat}{b7:S->H}(hY:Yld step run l (fun s=>b7 s++qdu l))(hlen:∀s,(b7 s).length=l+1)(hc:∀s,calm (b7 s))(x:Ex)(k:Nat)(hk:∀s,(b7 s)[k]?=some ⟨0,.box x.cells⟩)(hx:x.light=true)(s:S)(hrun:run s=true):ev pg (.call (.fn 291 [] [.bptr k 0]) [.yld l] (b7 s))=some { v:=.tup [],st:=⟨[],b7 (qng step run 1 x s)⟩ }:=by
 obtain⟨h1,h2⟩:=qdr hx
 have hcb:∀s,calm ((b7 s++qdu l)++[]):=fun s=>by
  rw[List.append_nil]
  exact qhg (hc s) (by simp[hlen];omega)
 have hv:=ev292 hY x 1 s [] hrun (by omega) h1 hcb
 simp only[List.append_nil]at hv
 generalize qng step run 1 x s=s2 at *
 have t1:=z9t (hlen s)
 have gk:∀z,(b7 s++z)[k]?=some ⟨0,.box x.cells⟩:=fun z=>qgw z (hk s)
 have hcut:∀z,qef (l+1) (b7 s2++z)=b7 s2:=fun z=>by
  have:=qfj (hc s2) z
  rwa [hlen]at this
 rw[qaa,pg291]
 simp at hv
 simp[-qef,ir291,hlen,t1,gk,hv,hcut]
end
abbrev qye(x:Ex):List V:=[x.v,.bptr 0 0,.bptr 1 0,.bptr 2 0,.bptr 3 0,.bptr 4 0,.bptr 5 0,.undef,x.v,.fn 291 [] [.bptr 6 0],.undef,.undef,.undef,.undef,.undef,.undef,.undef,.undef,.undef,.undef,.undef,.undef,.undef,.undef,.undef]
def m7(x:Ex)(s:Nat×Nat):H:=[⟨0,.box x.cells⟩,⟨0,.box [num 0]⟩,⟨0,.box [num 0]⟩,⟨0,.box [.bool false]⟩,⟨0,.box [num s.1]⟩,⟨0,.box [num s.2]⟩,⟨0,.box x.cells⟩,⟨0,.loop (qye x) [10,11] L276_0 L276_1 (if s.1<=256 then none else some .ret)⟩]
def qfo(s:Nat×Nat)(d:Nat)(_:Ex):Nat×Nat:=(s.1+1,max s.2 d)
def qop(s:Nat×Nat):Bool:=decide (s.1<=256)
theorem q3k{h:H}{k g:Nat}{sl:List V}{ps:List Nat}{a b:C}{p:Option X}(hc:calm h)(hk:h[k]?=some ⟨g,.loop sl ps a b p⟩)(p':Option X):calm (h.set k ⟨g,.loop sl ps a b p'⟩):=by
 rw[qpw]at hc ⊢
 have h1:=hc _ (jR hk)
 intro o ho
 rw[jU]
 rcases jT ho with ho | rfl
 .exact hc o ho
 .simp only[qcf,Ob.mk.injEq,K.loop.injEq,and_true,true_and]at h1 ⊢
  exact h1
theorem z2r(x:Ex):Yld qfo qop 7 (fun s=>m7 x s++qdu 7):=by
 refine⟨fun s=>rfl,fun s=>rfl,fun s=>rfl,fun s d y r hrun hd hy hr=>?_⟩
 have h256:s.1<=256:=by simpa[qop]using hrun
 have e1:ev pg (.code L276_0 ⟨qfn (qye x) [10,11] [num d,y.v],(m7 x s++qdu 7)++r⟩)=some { st:=⟨qer (qer (qer (qye x) 10 (num d)) 11 y.v) 7 (num d),(m7 x s++qdu 7)++r⟩ }:=by
  simp[L276_0]
 have wa:=qan (n:=(s.1:Int)+1) (by omega) (by omega)
 have hd':¬((16:Int)<(d:Int)):=by omega
 have e2:∃S2,ev pg (.code L276_1 ⟨qer (qer (qer (qye x) 10 (num d)) 11 y.v) 7 (num d),((m7 x s++qdu 7)++r).set 7 ⟨0,.loop (qye x) [10,11] L276_0 L276_1 (some .normal)⟩⟩)=some { x:=if s.1+1<=256 then .normal else .ret,st:=⟨S2,((m7 x (qfo s d y)++qdu 7)++r).set 7 ⟨0,.loop (qye x) [10,11] L276_0 L276_1 (some .normal)⟩⟩ }:=by
  by_cases h:s.1+1<=256
  .have h':¬((256:Int)<(s.1:Int)+1):=by omega
   simp[m7,L276_1,qfo,wa,h,h',hd']
   split<;>omega
  .have h':(256:Int)<(s.1:Int)+1:=by omega
   simp[m7,L276_1,qfo,wa,h,h']
   split<;>omega
 obtain⟨S2,e2⟩:=e2
 have hr2:=hr (qfo s d y)
 have hcl:=q3k hr2 (k:=7) (g:=0) (sl:=qye x) (ps:=[10,11]) (a:=L276_0) (b:=L276_1) (p:=if(qfo s d y).1<=256 then none else some .ret) rfl (some .normal)
 have hck:=qge hcl
 rw[jU]at hck
 have hlen:((m7 x s++qdu 7)++r:H).length=((m7 x (qfo s d y)++qdu 7)++r:H).length:=rfl
 rw[<-hlen]at hck
 have hy2:=zfx (P:=pg) (l:=7) (args:=[num d,y.v]) (h:=(m7 x s++qdu 7)++r) (g:=0) (sl:=qye x) (ps:=[10,11]) (a:=L276_0) (b:=L276_1) (by simp[m7,h256]) rfl e1 (g1:=0) (sl1:=qye x) (ps1:=[10,11]) (a1:=L276_0) (b1:=L276_1) (by simp[m7,h256]) e2 (g2:=0) (sl2:=qye x) (ps2:=[10,11]) (as2:=L276_0) (bd2:=L276_1) (p2:=some .normal) (by
  rw[hck];rfl)
 rw[hck]at hy2
 rw[hy2]
 by_cases h:s.1+1<=256
 .simp[qop,qfo,h,m7]
 .simp[qop,qfo,h,m7]
theorem zvz:∀(x:Ex) (d:Nat) (s:Nat×Nat),s.1+x.nodes<=256->qng qfo qop d x s=(s.1+x.nodes,max s.2 (d+x.depth-1)):=by
 refine Ex.ind fun x ih d s hs=>?_
 have hn:=qnr x
 have hd:=qpz x
 have hl:∀(l:List Ex) (s:Nat×Nat),(∀y∈l,y∈x.args)->d<=s.2->s.1+qdj l<=256->qgb qfo qop (d+1) l s=(s.1+qdj l,max s.2 (d+qgt l)):=by
  intro l
  induction l with
  | nil =>
   intro s _ hds h
   have e:max s.2 d=s.2:=by omega
   simp[qgb,qdj,qgt,e]
  | cons y l ihl =>
   intro s hsub hds h
   rw[qdj]at h
   rw[qgb,ih y (hsub y (by simp)) (d+1) s (by omega)]
   have hrun:qop (s.1+y.nodes,max s.2 (d+1+y.depth-1))=true:=by simp[qop];omega
   rw[if_pos hrun,ihl _ (fun z hz=>hsub z (by simp[hz])) (by simp only;omega) (by simp only;omega)]
   have hyp:=qkd y
   rw[qdj,qgt]
   simp only[Prod.mk.injEq]
   omega
 rw[q2o]
 have hrun:qop (qfo s d x)=true:=by
  have:=qwm x
  simp[qop,qfo];omega
 rw[if_pos hrun,hl x.args _ (fun y hy=>hy) (by simp only[qfo];omega) (by simp only[qfo];omega),hn,hd]
 simp only[qfo,Prod.mk.injEq]
 omega
theorem ev277(x:Ex)(h:H):ev pg (.call (.fn 277 [] []) [x.v] h)=some { v:=.fn 291 [] [.bptr h.length 0],st:=⟨[],h++[⟨0,.box x.cells⟩]⟩ }:=by
 rw[qaa,pg277]
 simp[ir277]
theorem ev276(x:Ex)(hx:x.light=true):ev pg (.call (.fn 276 [] []) [x.v] [])=some { v:=.tup [num x.nodes,num x.depth,.bool true],st:=⟨[],[]⟩ }:=by
 obtain⟨h1,h2⟩:=qdr hx
 have hd:=qkd x
 have h187:=ev277 x
 have h201:=ev291 (z2r x) (fun _=>rfl) (fun s=>by simp[calm,m7,qcf]) x 6 (fun _=>rfl) hx (0,0) rfl
 rw[zvz x 1 (0,0) (by simp only;omega)]at h201
 have hm:max 0 (1+x.depth-1)=x.depth:=by omega
 rw[hm]at h201
 simp[m7,h1]at h201
 rw[qaa,pg276]
 simp[ir276,h187,qgf,h201,qab,exT,qal]
abbrev qnb(x:Ex)(n:Int):List V:=[x.v,num n,.bptr 0 0,.bptr 1 0,.bptr 2 0,num x.nodes,num x.depth,.bool true,.undef,.undef,.undef,num n,.bool false,.bool false,num n,.bool false,.bool false,.tup [num x.nodes,num x.depth,.bool true],x.v,.tup [num x.nodes,num x.depth,.bool true],num x.nodes,num x.depth,.bool true,.bool true,.bool false,x.v,.fn 291 [] [.bptr 3 0],.undef,.undef,.undef,.undef,.undef,.undef,.undef,.undef]
def m4(x:Ex)(n:Int)(e:Int):H:=[⟨0,.box x.cells⟩,⟨0,.box [num n]⟩,⟨0,.box [num e]⟩,⟨0,.box x.cells⟩,⟨0,.loop (qnb x n) [27,28] L249_0 L249_1 (if e=0 then none else some .ret)⟩]
def qib(n:Int)(_:Int)(_:Nat)(y:Ex):Int:=qbq y.op y.idx y.args.length n
def qms(e:Int):Bool:=decide (e=0)
abbrev jfe(y:Ex):H:=[⟨0,.arr 0 []⟩,⟨0,.box y.cells⟩]
theorem z2q(x:Ex)(n:Int)(hn:0<=n/\n<=256):Yld (qib n) qms 4 (fun e=>m4 x n e++qdu 4):=by
 refine⟨fun s=>rfl,fun s=>rfl,fun s=>rfl,fun s d y r hrun hd hy hr=>?_⟩
 obtain rfl:s=0:=by simpa[qms]using hrun
 have h188:=ev278 y n hy hn
 have e1:∃S1,qai S1 3=.bptr 1 0/\qai S1 4=.bptr 2 0/\qai S1 9=.bptr (7+r.length+1) 0/\S1.length=35/\ev pg (.code L249_0 ⟨qfn (qnb x n) [27,28] [num d,y.v],(m4 x n 0++qdu 4)++r⟩)=some { st:=⟨S1,((m4 x n 0++qdu 4)++r)++[⟨0,.arr 0 []⟩,⟨0,.box y.cells⟩]⟩ }:=by
  have hl0:((m4 x n 0++qdu 4)++r:H).length=7+r.length:=by simp[m4];omega
  generalize (m4 x n 0++qdu 4)++r=G at *
  have t1:=z9t hl0
  simp[L249_0,hl0,t1]
  exact⟨_,rfl,rfl,rfl,rfl,rfl⟩
 obtain⟨S1,g3,g4,g9,hl,e1⟩:=e1
 have e2:∃S2,ev pg (.code L249_1 ⟨S1,(((m4 x n 0++qdu 4)++r)++jfe y).set 4 ⟨0,.loop (qnb x n) [27,28] L249_0 L249_1 (some .normal)⟩⟩)=some { x:=if qbq y.op y.idx y.args.length n=0 then .normal else .ret,st:=⟨S2,(((m4 x n (qbq y.op y.idx y.args.length n)++qdu 4)++r).set 4 ⟨0,.loop (qnb x n) [27,28] L249_0 L249_1 (some .normal)⟩)++jfe y⟩ }:=by
  generalize qbq y.op y.idx y.args.length n=e at *
  have k1:(((m4 x n 0++qdu 4)++r).set 4 ⟨0,.loop (qnb x n) [27,28] L249_0 L249_1 (some .normal)⟩)[1]?=some ⟨0,.box [num n]⟩:=rfl
  have k2:(((m4 x n 0++qdu 4)++r).set 4 ⟨0,.loop (qnb x n) [27,28] L249_0 L249_1 (some .normal)⟩)[2]?=some ⟨0,.box [num 0]⟩:=rfl
  have hl0:(((m4 x n 0++qdu 4)++r).set 4 ⟨0,.loop (qnb x n) [27,28] L249_0 L249_1 (some .normal)⟩:H).length=7+r.length:=by simp[m4];omega
  have s2:∀z,((((m4 x n 0++qdu 4)++r).set 4 ⟨0,.loop (qnb x n) [27,28] L249_0 L249_1 (some .normal)⟩)++z).set 2 ⟨0,.box [num e]⟩=((m4 x n e++qdu 4)++r).set 4 ⟨0,.loop (qnb x n) [27,28] L249_0 L249_1 (some .normal)⟩++z:=fun z=>rfl
  have h0:e=0->((m4 x n 0++qdu 4)++r).set 4 ⟨0,.loop (qnb x n) [27,28] L249_0 L249_1 (some .normal)⟩=((m4 x n e++qdu 4)++r).set 4 ⟨0,.loop (qnb x n) [27,28] L249_0 L249_1 (some .normal)⟩:=fun h=>by rw[h]
  rw[List.set_append_left _ _ (by simp[m4])]
  generalize ((m4 x n 0++qdu 4)++r).set 4 ⟨0,.loop (qnb x n) [27,28] L249_0 L249_1 (some .normal)⟩=G at *
  generalize ((m4 x n e++qdu 4)++r).set 4 ⟨0,.loop (qnb x n) [27,28] L249_0 L249_1 (some .normal)⟩=G2 at *
  have a1:=jfi hl0
  have k1':=fun z=>qgw z k1
  have k2':=fun z=>qgw z k2
  rw[qad hl]
  by_cases he:e=0
  .rw[h0 he]at *
   simp[-getElem?_pos,L249_1,List.range,List.range.loop,g3,g4,g9,a1,k1',h188,he]
  .simp[-getElem?_pos,L249_1,List.range,List.range.loop,g3,g4,g9,a1,k1',k2',s2,h188,he]
 obtain⟨S2,e2⟩:=e2
 have hr2:=hr (qib n 0 d y)
 have hcl:=q3k hr2 (k:=4) (g:=0) (sl:=qnb x n) (ps:=[27,28]) (a:=L249_0) (b:=L249_1) (p:=if qib n 0 d y=0 then none else some .ret) rfl (some .normal)
 have hck:=qfj hcl [⟨0,.arr 0 []⟩,⟨0,.box y.cells⟩]
 rw[jU]at hck
 have hlen:((m4 x n 0++qdu 4)++r:H).length=((m4 x n (qib n 0 d y)++qdu 4)++r:H).length:=rfl
 rw[<-hlen]at hck
 have hy2:=zfx (P:=pg) (l:=4) (args:=[num d,y.v]) (h:=(m4 x n 0++qdu 4)++r) (g:=0) (sl:=qnb x n) (ps:=[27,28]) (a:=L249_0) (b:=L249_1) (by simp[m4]) rfl e1 (g1:=0) (sl1:=qnb x n) (ps1:=[27,28]) (a1:=L249_0) (b1:=L249_1) (by simp[m4]) e2 (g2:=0) (sl2:=qnb x n) (ps2:=[27,28]) (as2:=L249_0) (bd2:=L249_1) (p2:=some .normal) (by
  show(qef _ (((m4 x n (qib n 0 d y)++qdu 4)++r).set 4 _++_))[4]?=_
  rw[hck];rfl)
 rw[hy2]
 show some ({ v:=_,st:=⟨[],(qef _ (((m4 x n (qib n 0 d y)++qdu 4)++r).set 4 _++_)).set 4 _⟩ }:Am.R)=_
 rw[hck]
 by_cases h:qbq y.op y.idx y.args.length n=0
 .simp[qms,qib,h,m4]
 .simp[qms,qib,h,m4]
theorem zvy(n:Int):∀(x:Ex) (d:Nat) (e:Int),qng (qib n) qms d x e=x.err n:=by
 refine Ex.ind fun x ih d e=>?_
 rw[q2o,q8y]
 have hl:∀(l:List Ex),(∀y∈l,y∈x.args)->qgb (qib n) qms (d+1) l 0=q3q n l:=by
  intro l
  induction l with
  | nil=>intro _;simp[qgb,q3q]
  | cons y l ihl =>
   intro hsub
   rw[qgb,ih y (hsub y (by simp)),q3q]
   by_cases h:y.err n=0
   .rw[h,if_pos (by rfl),if_pos rfl]
    exact ihl fun z hz=>hsub z (by simp[hz])
   .rw[if_neg (by simp[qms,h]),if_neg h]
 show(if qms (qbq x.op x.idx x.args.length n)=true then qgb (qib n) qms (d+1) x.args (qbq x.op x.idx x.args.length n)else qbq x.op x.idx x.args.length n)=_
 by_cases h:qbq x.op x.idx x.args.length n=0
 .rw[h,if_pos rfl]
  show qgb (qib n) qms (d+1) x.args 0=_
  exact hl x.args fun y hy=>hy
 .rw[if_neg (by simp[qms,h]),if_neg h]
theorem ev249(x:Ex)(n:Int)(hx:x.light=true):ev pg (.call (.fn 249 [] []) [x.v,num n] [])=some { v:=num (x.check n),st:=⟨[],[]⟩ }:=by
 have zme:=ev276 x hx
 have h187:=ev277 x
 rw[qaa,pg249]
 by_cases h1:n<0
 .simp[ir249,Ex.check,h1]
 .by_cases h2:256<n
  .simp[ir249,Ex.check,h1,h2]
  .have h201:=ev291 (z2q x n ⟨by omega,by omega⟩) (fun _=>rfl) (fun s=>by simp[calm,m4,qcf]) x 3 (fun _=>rfl) hx 0 rfl
   rw[zvy]at h201
   have hc:x.check n=x.err n:=by simp[Ex.check,h1,h2,hx]
   rw[hc]
   generalize x.err n=e at *
   by_cases he:e=0
   .subst he
    simp[m4]at h201
    simp[ir249,h1,h2,zme,h187,qgf,h201]
   .simp[m4,he]at h201
    simp[ir249,h1,h2,zme,h187,qgf,h201]
end Go.Proofs.YtbepbclaoohngaaGreat
