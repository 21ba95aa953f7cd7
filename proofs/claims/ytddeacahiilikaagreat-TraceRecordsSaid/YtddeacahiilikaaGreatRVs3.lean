/- All nodes of an expression; how many, and how deep; the errors of an expression, by the program. The errors of an expression, by the program. -/
import Derived.Test.YtddeacahiilikaaGreatRVs1
set_option linter.all false
namespace Go.Proofs.YtddeacahiilikaaGreat
open Go Go.Am Go.Proofs
set_option maxRecDepth 100000
section
variable{S:Type}{step:S->Nat->Ex->S}{run:S->Bool}
abbrev qct(l:Nat):H:=[⟨0,.box [.yld l]⟩,⟨0,.box [.fn 295 [] [.bptr (l+1) 0,.bptr (l+2) 0]]⟩]
theorem ev294{l:Nat}{b7:S->H}(hY:Yld step run l (fun s=>b7 s++qct l))(hlen:∀s,(b7 s).length=l+1)(hc:∀s,qdb (b7 s))(x:Ex)(k:Nat)(hk:∀s,(b7 s)[k]?=some ⟨0,.box x.cells⟩)(hx:x.light=true)(s:S)(hrun:run s=true):ev pg (.call (.fn 294 [] [.bptr k 0]) [.yld l] (b7 s))=some { v:=.tup [],st:=⟨[],b7 (qkq step run 1 x s)⟩ }:=by
 obtain⟨h1,h2⟩:=qec hx
 have hcb:∀s,qdb ((b7 s++qct l)++[]):=fun s=>by
  rw[List.append_nil]
  exact qfq (hc s) (by simp[hlen];omega)
 have hv:=ev295 hY x 1 s [] hrun (by omega) h1 hcb
 simp only[List.append_nil]at hv
 generalize qkq step run 1 x s=s2 at *
 have t1:=zzg (hlen s)
 have gk:∀z,(b7 s++z)[k]?=some ⟨0,.box x.cells⟩:=fun z=>qgp z (hk s)
 have hcut:∀z,qaq (l+1) (b7 s2++z)=b7 s2:=fun z=>by
  have:=qgh (hc s2) z
  rwa [hlen]at this
 rw[qac,pg294]
 simp at hv
 simp[-qaq,ir294,hlen,t1,gk,hv,hcut]
end
abbrev qtg(x:Ex):List V:=[x.v,.bptr 0 0,.bptr 1 0,.bptr 2 0,.bptr 3 0,.bptr 4 0,.bptr 5 0,.undef,x.v,.fn 294 [] [.bptr 6 0],.undef,.undef,.undef,.undef,.undef,.undef,.undef,.undef,.undef,.undef,.undef,.undef,.undef,.undef,.undef]
def m7(x:Ex)(s:Nat×Nat):H:=[⟨0,.box x.cells⟩,⟨0,.box [num 0]⟩,⟨0,.box [num 0]⟩,⟨0,.box [.bool false]⟩,⟨0,.box [num s.1]⟩,⟨0,.box [num s.2]⟩,⟨0,.box x.cells⟩,⟨0,.loop (qtg x) [10,11] L271_0 L271_1 (if s.1<=256 then none else some .ret)⟩]
def qem(s:Nat×Nat)(d:Nat)(_:Ex):Nat×Nat:=(s.1+1,max s.2 d)
def qls(s:Nat×Nat):Bool:=decide (s.1<=256)
theorem qxk{h:H}{k g:Nat}{sl:List V}{ps:List Nat}{a b:C}{p:Option X}(hc:qdb h)(hk:h[k]?=some ⟨g,.loop sl ps a b p⟩)(p':Option X):qdb (h.set k ⟨g,.loop sl ps a b p'⟩):=by
 rw[qms]at hc ⊢
 have h1:=hc _ (jR hk)
 intro o ho
 rw[jU]
 rcases jT ho with ho | rfl
 .exact hc o ho
 .simp only[qcf,Ob.mk.injEq,K.loop.injEq,and_true,true_and]at h1 ⊢
  exact h1
theorem zta(x:Ex):Yld qem qls 7 (fun s=>m7 x s++qct 7):=by
 refine⟨fun s=>rfl,fun s=>rfl,fun s=>rfl,fun s d y r hrun hd hy hr=>?_⟩
 have h256:s.1<=256:=by simpa[qls]using hrun
 have e1:ev pg (.code L271_0 ⟨qew (qtg x) [10,11] [num d,y.v],(m7 x s++qct 7)++r⟩)=some { st:=⟨qhi (qhi (qhi (qtg x) 10 (num d)) 11 y.v) 7 (num d),(m7 x s++qct 7)++r⟩ }:=by
  simp[L271_0]
 have wa:=qab (n:=(s.1:Int)+1) (by omega) (by omega)
 have hd':¬((16:Int)<(d:Int)):=by omega
 have e2:∃S2,ev pg (.code L271_1 ⟨qhi (qhi (qhi (qtg x) 10 (num d)) 11 y.v) 7 (num d),((m7 x s++qct 7)++r).set 7 ⟨0,.loop (qtg x) [10,11] L271_0 L271_1 (some .normal)⟩⟩)=some { x:=if s.1+1<=256 then .normal else .ret,st:=⟨S2,((m7 x (qem s d y)++qct 7)++r).set 7 ⟨0,.loop (qtg x) [10,11] L271_0 L271_1 (some .normal)⟩⟩ }:=by
  by_cases h:s.1+1<=256
  .have h':¬((256:Int)<(s.1:Int)+1):=by omega
   simp[m7,L271_1,qem,wa,h,h',hd']
   split<;>omega
  .have h':(256:Int)<(s.1:Int)+1:=by omega
   simp[m7,L271_1,qem,wa,h,h']
   split<;>omega
 obtain⟨S2,e2⟩:=e2
 have hr2:=hr (qem s d y)
 have hcl:=qxk hr2 (k:=7) (g:=0) (sl:=qtg x) (ps:=[10,11]) (a:=L271_0) (b:=L271_1) (p:=if(qem s d y).1<=256 then none else some .ret) rfl (some .normal)
 have hck:=qeo hcl
 rw[jU]at hck
 have hlen:((m7 x s++qct 7)++r:H).length=((m7 x (qem s d y)++qct 7)++r:H).length:=rfl
 rw[<-hlen]at hck
 have hy2:=q7u (P:=pg) (l:=7) (args:=[num d,y.v]) (h:=(m7 x s++qct 7)++r) (g:=0) (sl:=qtg x) (ps:=[10,11]) (a:=L271_0) (b:=L271_1) (by simp[m7,h256]) rfl e1 (g1:=0) (sl1:=qtg x) (ps1:=[10,11]) (a1:=L271_0) (b1:=L271_1) (by simp[m7,h256]) e2 (g2:=0) (sl2:=qtg x) (ps2:=[10,11]) (as2:=L271_0) (bd2:=L271_1) (p2:=some .normal) (by
  rw[hck];rfl)
 rw[hck]at hy2
 rw[hy2]
 by_cases h:s.1+1<=256
 .simp[qls,qem,h,m7]
 .simp[qls,qem,h,m7]
theorem zop:∀(x:Ex) (d:Nat) (s:Nat×Nat),s.1+x.nodes<=256->qkq qem qls d x s=(s.1+x.nodes,max s.2 (d+x.depth-1)):=by
 refine Ex.ind fun x ih d s hs=>?_
 have hn:=qkz x
 have hd:=qmu x
 have hl:∀(l:List Ex) (s:Nat×Nat),(∀y∈l,y∈x.args)->d<=s.2->s.1+qdn l<=256->qez qem qls (d+1) l s=(s.1+qdn l,max s.2 (d+qjm l)):=by
  intro l
  induction l with
  | nil =>
   intro s _ hds h
   have e:max s.2 d=s.2:=by omega
   simp[qez,qdn,qjm,e]
  | cons y l ihl =>
   intro s hsub hds h
   rw[qdn]at h
   rw[qez,ih y (hsub y (by simp)) (d+1) s (by omega)]
   have hrun:qls (s.1+y.nodes,max s.2 (d+1+y.depth-1))=true:=by simp[qls];omega
   rw[if_pos hrun,ihl _ (fun z hz=>hsub z (by simp[hz])) (by simp only;omega) (by simp only;omega)]
   have hyp:=qib y
   rw[qdn,qjm]
   simp only[Prod.mk.injEq]
   omega
 rw[qwt]
 have hrun:qls (qem s d x)=true:=by
  have:=qru x
  simp[qls,qem];omega
 rw[if_pos hrun,hl x.args _ (fun y hy=>hy) (by simp only[qem];omega) (by simp only[qem];omega),hn,hd]
 simp only[qem,Prod.mk.injEq]
 omega
theorem ev272(x:Ex)(h:H):ev pg (.call (.fn 272 [] []) [x.v] h)=some { v:=.fn 294 [] [.bptr h.length 0],st:=⟨[],h++[⟨0,.box x.cells⟩]⟩ }:=by
 rw[qac,pg272]
 simp[ir272]
theorem ev271(x:Ex)(hx:x.light=true):ev pg (.call (.fn 271 [] []) [x.v] [])=some { v:=.tup [num x.nodes,num x.depth,.bool true],st:=⟨[],[]⟩ }:=by
 obtain⟨h1,h2⟩:=qec hx
 have hd:=qib x
 have h187:=ev272 x
 have h201:=ev294 (zta x) (fun _=>rfl) (fun s=>by simp[qdb,m7,qcf]) x 6 (fun _=>rfl) hx (0,0) rfl
 rw[zop x 1 (0,0) (by simp only;omega)]at h201
 have hm:max 0 (1+x.depth-1)=x.depth:=by omega
 rw[hm]at h201
 simp[m7,h1]at h201
 rw[qac,pg271]
 simp[ir271,h187,qgi,h201,qaa,exT,qae]
abbrev qko(x:Ex)(n:Int):List V:=[x.v,num n,.bptr 0 0,.bptr 1 0,.bptr 2 0,num x.nodes,num x.depth,.bool true,.undef,.undef,.undef,num n,.bool false,.bool false,num n,.bool false,.bool false,.tup [num x.nodes,num x.depth,.bool true],x.v,.tup [num x.nodes,num x.depth,.bool true],num x.nodes,num x.depth,.bool true,.bool true,.bool false,x.v,.fn 294 [] [.bptr 3 0],.undef,.undef,.undef,.undef,.undef,.undef,.undef,.undef]
def m4(x:Ex)(n:Int)(e:Int):H:=[⟨0,.box x.cells⟩,⟨0,.box [num n]⟩,⟨0,.box [num e]⟩,⟨0,.box x.cells⟩,⟨0,.loop (qko x n) [27,28] L231_0 L231_1 (if e=0 then none else some .ret)⟩]
def qge(n:Int)(_:Int)(_:Nat)(y:Ex):Int:=qbg y.op y.idx y.args.length n
def qkh(e:Int):Bool:=decide (e=0)
abbrev z2s(y:Ex):H:=[⟨0,.arr 0 []⟩,⟨0,.box y.cells⟩]
theorem zsz(x:Ex)(n:Int)(hn:0<=n/\n<=256):Yld (qge n) qkh 4 (fun e=>m4 x n e++qct 4):=by
 refine⟨fun s=>rfl,fun s=>rfl,fun s=>rfl,fun s d y r hrun hd hy hr=>?_⟩
 obtain rfl:s=0:=by simpa[qkh]using hrun
 have h188:=ev273 y n hy hn
 have e1:∃S1,qao S1 3=.bptr 1 0/\qao S1 4=.bptr 2 0/\qao S1 9=.bptr (7+r.length+1) 0/\S1.length=35/\ev pg (.code L231_0 ⟨qew (qko x n) [27,28] [num d,y.v],(m4 x n 0++qct 4)++r⟩)=some { st:=⟨S1,((m4 x n 0++qct 4)++r)++[⟨0,.arr 0 []⟩,⟨0,.box y.cells⟩]⟩ }:=by
  have hl0:((m4 x n 0++qct 4)++r:H).length=7+r.length:=by simp[m4];omega
  generalize (m4 x n 0++qct 4)++r=G at *
  have t1:=zzg hl0
  simp[L231_0,hl0,t1]
  exact⟨_,rfl,rfl,rfl,rfl,rfl⟩
 obtain⟨S1,g3,g4,g9,hl,e1⟩:=e1
 have e2:∃S2,ev pg (.code L231_1 ⟨S1,(((m4 x n 0++qct 4)++r)++z2s y).set 4 ⟨0,.loop (qko x n) [27,28] L231_0 L231_1 (some .normal)⟩⟩)=some { x:=if qbg y.op y.idx y.args.length n=0 then .normal else .ret,st:=⟨S2,(((m4 x n (qbg y.op y.idx y.args.length n)++qct 4)++r).set 4 ⟨0,.loop (qko x n) [27,28] L231_0 L231_1 (some .normal)⟩)++z2s y⟩ }:=by
  generalize qbg y.op y.idx y.args.length n=e at *
  have k1:(((m4 x n 0++qct 4)++r).set 4 ⟨0,.loop (qko x n) [27,28] L231_0 L231_1 (some .normal)⟩)[1]?=some ⟨0,.box [num n]⟩:=rfl
  have k2:(((m4 x n 0++qct 4)++r).set 4 ⟨0,.loop (qko x n) [27,28] L231_0 L231_1 (some .normal)⟩)[2]?=some ⟨0,.box [num 0]⟩:=rfl
  have hl0:(((m4 x n 0++qct 4)++r).set 4 ⟨0,.loop (qko x n) [27,28] L231_0 L231_1 (some .normal)⟩:H).length=7+r.length:=by simp[m4];omega
  have s2:∀z,((((m4 x n 0++qct 4)++r).set 4 ⟨0,.loop (qko x n) [27,28] L231_0 L231_1 (some .normal)⟩)++z).set 2 ⟨0,.box [num e]⟩=((m4 x n e++qct 4)++r).set 4 ⟨0,.loop (qko x n) [27,28] L231_0 L231_1 (some .normal)⟩++z:=fun z=>rfl
  have h0:e=0->((m4 x n 0++qct 4)++r).set 4 ⟨0,.loop (qko x n) [27,28] L231_0 L231_1 (some .normal)⟩=((m4 x n e++qct 4)++r).set 4 ⟨0,.loop (qko x n) [27,28] L231_0 L231_1 (some .normal)⟩:=fun h=>by rw[h]
  rw[List.set_append_left _ _ (by simp[m4])]
  generalize ((m4 x n 0++qct 4)++r).set 4 ⟨0,.loop (qko x n) [27,28] L231_0 L231_1 (some .normal)⟩=G at *
  generalize ((m4 x n e++qct 4)++r).set 4 ⟨0,.loop (qko x n) [27,28] L231_0 L231_1 (some .normal)⟩=G2 at *
  have a1:=z2x hl0
  have k1':=fun z=>qgp z k1
  have k2':=fun z=>qgp z k2
  rw[qag hl]
  by_cases he:e=0
  .rw[h0 he]at *
   simp[-getElem?_pos,L231_1,List.range,List.range.loop,g3,g4,g9,a1,k1',h188,he]
  .simp[-getElem?_pos,L231_1,List.range,List.range.loop,g3,g4,g9,a1,k1',k2',s2,h188,he]
 obtain⟨S2,e2⟩:=e2
 have hr2:=hr (qge n 0 d y)
 have hcl:=qxk hr2 (k:=4) (g:=0) (sl:=qko x n) (ps:=[27,28]) (a:=L231_0) (b:=L231_1) (p:=if qge n 0 d y=0 then none else some .ret) rfl (some .normal)
 have hck:=qgh hcl [⟨0,.arr 0 []⟩,⟨0,.box y.cells⟩]
 rw[jU]at hck
 have hlen:((m4 x n 0++qct 4)++r:H).length=((m4 x n (qge n 0 d y)++qct 4)++r:H).length:=rfl
 rw[<-hlen]at hck
 have hy2:=q7u (P:=pg) (l:=4) (args:=[num d,y.v]) (h:=(m4 x n 0++qct 4)++r) (g:=0) (sl:=qko x n) (ps:=[27,28]) (a:=L231_0) (b:=L231_1) (by simp[m4]) rfl e1 (g1:=0) (sl1:=qko x n) (ps1:=[27,28]) (a1:=L231_0) (b1:=L231_1) (by simp[m4]) e2 (g2:=0) (sl2:=qko x n) (ps2:=[27,28]) (as2:=L231_0) (bd2:=L231_1) (p2:=some .normal) (by
  show(qaq _ (((m4 x n (qge n 0 d y)++qct 4)++r).set 4 _++_))[4]?=_
  rw[hck];rfl)
 rw[hy2]
 show some ({ v:=_,st:=⟨[],(qaq _ (((m4 x n (qge n 0 d y)++qct 4)++r).set 4 _++_)).set 4 _⟩ }:Am.R)=_
 rw[hck]
 by_cases h:qbg y.op y.idx y.args.length n=0
 .simp[qkh,qge,h,m4]
 .simp[qkh,qge,h,m4]
theorem zoo(n:Int):∀(x:Ex) (d:Nat) (e:Int),qkq (qge n) qkh d x e=x.err n:=by
 refine Ex.ind fun x ih d e=>?_
 rw[qwt,q2b]
 have hl:∀(l:List Ex),(∀y∈l,y∈x.args)->qez (qge n) qkh (d+1) l 0=qxq n l:=by
  intro l
  induction l with
  | nil=>intro _;simp[qez,qxq]
  | cons y l ihl =>
   intro hsub
   rw[qez,ih y (hsub y (by simp)),qxq]
   by_cases h:y.err n=0
   .rw[h,if_pos (by rfl),if_pos rfl]
    exact ihl fun z hz=>hsub z (by simp[hz])
   .rw[if_neg (by simp[qkh,h]),if_neg h]
 show(if qkh (qbg x.op x.idx x.args.length n)=true then qez (qge n) qkh (d+1) x.args (qbg x.op x.idx x.args.length n)else qbg x.op x.idx x.args.length n)=_
 by_cases h:qbg x.op x.idx x.args.length n=0
 .rw[h,if_pos rfl]
  show qez (qge n) qkh (d+1) x.args 0=_
  exact hl x.args fun y hy=>hy
 .rw[if_neg (by simp[qkh,h]),if_neg h]
theorem ev231(x:Ex)(n:Int)(hx:x.light=true):ev pg (.call (.fn 231 [] []) [x.v,num n] [])=some { v:=num (x.check n),st:=⟨[],[]⟩ }:=by
 have zdb:=ev271 x hx
 have h187:=ev272 x
 rw[qac,pg231]
 by_cases h1:n<0
 .simp[ir231,Ex.check,h1]
 .by_cases h2:256<n
  .simp[ir231,Ex.check,h1,h2]
  .have h201:=ev294 (zsz x n ⟨by omega,by omega⟩) (fun _=>rfl) (fun s=>by simp[qdb,m4,qcf]) x 3 (fun _=>rfl) hx 0 rfl
   rw[zoo]at h201
   have hc:x.check n=x.err n:=by simp[Ex.check,h1,h2,hx]
   rw[hc]
   generalize x.err n=e at *
   by_cases he:e=0
   .subst he
    simp[m4]at h201
    simp[ir231,h1,h2,zdb,h187,qgi,h201]
   .simp[m4,he]at h201
    simp[ir231,h1,h2,zdb,h187,qgi,h201]
end Go.Proofs.YtddeacahiilikaaGreat
