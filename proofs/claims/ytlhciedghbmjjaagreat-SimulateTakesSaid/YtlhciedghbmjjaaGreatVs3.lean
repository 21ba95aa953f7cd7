/- All nodes of an expression; how many, and how deep; the errors of an expression, by the program. The errors of an expression, by the program. -/
import Derived.Test.YtlhciedghbmjjaaGreatVs1
set_option linter.all false
namespace Go.Proofs.YtlhciedghbmjjaaGreat
open Go Go.Am Go.Proofs
set_option maxRecDepth 100000
section
variable {S:Type} {step:S→Nat→Ex→S} {run:S→Bool}
abbrev qcs (l:Nat):H:=[⟨0,.box [.yld l]⟩,⟨0,.box [.fn 186 [] [.bptr (l + 1) 0,.bptr (l + 2) 0]]⟩]
theorem ev185 {l:Nat} {b7:S→H} (hY:Yld step run l (fun s=>b7 s++qcs l)) (hlen:∀ s,(b7 s).length=l + 1) (hc:∀ s,qci (b7 s)) (x:Ex) (k:Nat) (hk:∀ s,(b7 s)[k]?=some ⟨0,.box x.cells⟩) (hx:x.light=true) (s:S) (hrun:run s=true):ev pg (.call (.fn 185 [] [.bptr k 0]) [.yld l] (b7 s))=some { v:=.tup [],st:=⟨[],b7 (qkb step run 1 x s)⟩ }:=by
 obtain ⟨h1,h2⟩:=qdz hx
 have hcb:∀ s,qci ((b7 s++qcs l)++[]):=fun s=>by
  rw [List.append_nil]
  exact qdo (hc s) (by simp [hlen]; omega)
 have hv:=ev186 hY x 1 s [] hrun (by omega) h1 hcb
 simp only [List.append_nil] at hv
 generalize qkb step run 1 x s=s2 at *
 have t1:=z0u (hlen s)
 have gk:∀ z,(b7 s++z)[k]?=some ⟨0,.box x.cells⟩:=fun z=>qhl z (hk s)
 have hcut:∀ z,qam (l + 1) (b7 s2++z)=b7 s2:=fun z=>by
  have:=qde (hc s2) z
  rwa [hlen] at this
 rw [qac,pg185]
 simp at hv
 simp [-qam,ir185,hlen,t1,gk,hv,hcut]
end
abbrev qug (x:Ex):List V:=[x.v,.bptr 0 0,.bptr 1 0,.bptr 2 0,.bptr 3 0,.bptr 4 0,.bptr 5 0,.undef,x.v,.fn 185 [] [.bptr 6 0],.undef,.undef,.undef,.undef,.undef,.undef,.undef,.undef,.undef,.undef,.undef,.undef,.undef,.undef,.undef]
def m7 (x:Ex) (s:Nat × Nat):H:=[⟨0,.box x.cells⟩,⟨0,.box [num 0]⟩,⟨0,.box [num 0]⟩,⟨0,.box [.bool false]⟩,⟨0,.box [num s.1]⟩,⟨0,.box [num s.2]⟩,⟨0,.box x.cells⟩,⟨0,.loop (qug x) [10,11] L174_0 L174_1 (if s.1≤256 then none else some .ret)⟩]
def qeh (s:Nat × Nat) (d:Nat) (_:Ex):Nat × Nat:=(s.1 + 1,max s.2 d)
def qlt (s:Nat × Nat):Bool:=decide (s.1≤256)
theorem q1p {h:H} {k g:Nat} {sl:List V} {ps:List Nat} {a b:C} {p:Option X} (hc:qci h) (hk:h[k]?=some ⟨g,.loop sl ps a b p⟩) (p':Option X):qci (h.set k ⟨g,.loop sl ps a b p'⟩):=by
 rw [qhs] at hc ⊢
 have h1:=hc _ (List.mem_of_getElem? hk)
 intro o ho
 rw [List.length_set]
 rcases List.mem_or_eq_of_mem_set ho with ho | rfl
 ·exact hc o ho
 ·simp only [qbl,Ob.mk.injEq,K.loop.injEq,and_true,true_and] at h1 ⊢
  exact h1
theorem zvb (x:Ex):Yld qeh qlt 7 (fun s=>m7 x s++qcs 7):=by
 refine ⟨fun s=>rfl,fun s=>rfl,fun s=>rfl,fun s d y r hrun hd hy hr=>?_⟩
 have h256:s.1≤256:=by simpa [qlt] using hrun
 have e1:ev pg (.code L174_0 ⟨qet (qug x) [10,11] [num d,y.v],(m7 x s++qcs 7)++r⟩)=some { st:=⟨qgj (qgj (qgj (qug x) 10 (num d)) 11 y.v) 7 (num d),(m7 x s++qcs 7)++r⟩ }:=by
  simp [L174_0]
 have wa:=qab (n:=(s.1:Int) + 1) (by omega) (by omega)
 have hd':¬ ((16:Int) < (d:Int)):=by omega
 have e2:∃ S2,ev pg (.code L174_1 ⟨qgj (qgj (qgj (qug x) 10 (num d)) 11 y.v) 7 (num d),((m7 x s++qcs 7)++r).set 7 ⟨0,.loop (qug x) [10,11] L174_0 L174_1 (some .normal)⟩⟩)=some { x:=if s.1 + 1≤256 then .normal else .ret,st:=⟨S2,((m7 x (qeh s d y)++qcs 7)++r).set 7 ⟨0,.loop (qug x) [10,11] L174_0 L174_1 (some .normal)⟩⟩ }:=by
  by_cases h:s.1 + 1≤256
  ·have h':¬ ((256:Int) < (s.1:Int) + 1):=by omega
   simp [m7,L174_1,qeh,wa,h,h',hd']
   split <;> omega
  ·have h':(256:Int) < (s.1:Int) + 1:=by omega
   simp [m7,L174_1,qeh,wa,h,h']
   split <;> omega
 obtain ⟨S2,e2⟩:=e2
 have hr2:=hr (qeh s d y)
 have hcl:=q1p hr2 (k:=7) (g:=0) (sl:=qug x) (ps:=[10,11]) (a:=L174_0) (b:=L174_1) (p:=if (qeh s d y).1≤256 then none else some .ret) rfl (some .normal)
 have hck:=qdg hcl
 rw [List.length_set] at hck
 have hlen:((m7 x s++qcs 7)++r:H).length=((m7 x (qeh s d y)++qcs 7)++r:H).length:=rfl
 rw [← hlen] at hck
 have hy2:=zdk (P:=pg) (l:=7) (args:=[num d,y.v]) (h:=(m7 x s++qcs 7)++r) (g:=0) (sl:=qug x) (ps:=[10,11]) (a:=L174_0) (b:=L174_1) (by simp [m7,h256]) rfl e1 (g1:=0) (sl1:=qug x) (ps1:=[10,11]) (a1:=L174_0) (b1:=L174_1) (by simp [m7,h256]) e2 (g2:=0) (sl2:=qug x) (ps2:=[10,11]) (as2:=L174_0) (bd2:=L174_1) (p2:=some .normal) (by
  rw [hck]; rfl)
 rw [hck] at hy2
 rw [hy2]
 by_cases h:s.1 + 1≤256
 ·simp [qlt,qeh,h,m7]
 ·simp [qlt,qeh,h,m7]
theorem znb:∀ (x:Ex) (d:Nat) (s:Nat × Nat),s.1 + x.nodes≤256→qkb qeh qlt d x s=(s.1 + x.nodes,max s.2 (d + x.depth - 1)):=by
 refine Ex.ind fun x ih d s hs=>?_
 have hn:=qlf x
 have hd:=qny x
 have hl:∀ (l:List Ex) (s:Nat × Nat),(∀ y ∈ l,y ∈ x.args)→d≤s.2→s.1 + qdk l≤256→qex qeh qlt (d + 1) l s=(s.1 + qdk l,max s.2 (d + qju l)):=by
  intro l
  induction l with
  | nil =>
   intro s _ hds h
   have e:max s.2 d=s.2:=by omega
   simp [qex,qdk,qju,e]
  | cons y l ihl =>
   intro s hsub hds h
   rw [qdk] at h
   rw [qex,ih y (hsub y (by simp)) (d + 1) s (by omega)]
   have hrun:qlt (s.1 + y.nodes,max s.2 (d + 1 + y.depth - 1))=true:=by simp [qlt]; omega
   rw [if_pos hrun,ihl _ (fun z hz=>hsub z (by simp [hz])) (by simp only; omega) (by simp only; omega)]
   have hyp:=qim y
   rw [qdk,qju]
   simp only [Prod.mk.injEq]
   omega
 rw [qxa]
 have hrun:qlt (qeh s d x)=true:=by
  have:=qsb x
  simp [qlt,qeh]; omega
 rw [if_pos hrun,hl x.args _ (fun y hy=>hy) (by simp only [qeh]; omega) (by simp only [qeh]; omega),hn,hd]
 simp only [qeh,Prod.mk.injEq]
 omega
theorem ev175 (x:Ex) (h:H):ev pg (.call (.fn 175 [] []) [x.v] h)=some { v:=.fn 185 [] [.bptr h.length 0],st:=⟨[],h++[⟨0,.box x.cells⟩]⟩ }:=by
 rw [qac,pg175]
 simp [ir175]
theorem ev174 (x:Ex) (hx:x.light=true):ev pg (.call (.fn 174 [] []) [x.v] [])=some { v:=.tup [num x.nodes,num x.depth,.bool true],st:=⟨[],[]⟩ }:=by
 obtain ⟨h1,h2⟩:=qdz hx
 have hd:=qim x
 have h187:=ev175 x
 have h201:=ev185 (zvb x) (fun _=>rfl) (fun s=>by simp [qci,m7,qbl]) x 6 (fun _=>rfl) hx (0,0) rfl
 rw [znb x 1 (0,0) (by simp only; omega)] at h201
 have hm:max 0 (1 + x.depth - 1)=x.depth:=by omega
 rw [hm] at h201
 simp [m7,h1] at h201
 rw [qac,pg174]
 simp [ir174,h187,qgs,h201,qaa,exT,qad]
abbrev qjz (x:Ex) (n:Int):List V:=[x.v,num n,.bptr 0 0,.bptr 1 0,.bptr 2 0,num x.nodes,num x.depth,.bool true,.undef,.undef,.undef,num n,.bool false,.bool false,num n,.bool false,.bool false,.tup [num x.nodes,num x.depth,.bool true],x.v,.tup [num x.nodes,num x.depth,.bool true],num x.nodes,num x.depth,.bool true,.bool true,.bool false,x.v,.fn 185 [] [.bptr 3 0],.undef,.undef,.undef,.undef,.undef,.undef,.undef,.undef]
def m4 (x:Ex) (n:Int) (e:Int):H:=[⟨0,.box x.cells⟩,⟨0,.box [num n]⟩,⟨0,.box [num e]⟩,⟨0,.box x.cells⟩,⟨0,.loop (qjz x n) [27,28] L150_0 L150_1 (if e=0 then none else some .ret)⟩]
def qgm (n:Int) (_:Int) (_:Nat) (y:Ex):Int:=qbi y.op y.idx y.args.length n
def qku (e:Int):Bool:=decide (e=0)
abbrev z7g (y:Ex):H:=[⟨0,.arr 0 []⟩,⟨0,.box y.cells⟩]
theorem zvx (x:Ex) (n:Int) (hn:0≤n∧n≤256):Yld (qgm n) qku 4 (fun e=>m4 x n e++qcs 4):=by
 refine ⟨fun s=>rfl,fun s=>rfl,fun s=>rfl,fun s d y r hrun hd hy hr=>?_⟩
 obtain rfl:s=0:=by simpa [qku] using hrun
 have h188:=ev176 y n hy hn
 have e1:∃ S1,qaq S1 3=.bptr 1 0∧qaq S1 4=.bptr 2 0∧qaq S1 9=.bptr (7 + r.length + 1) 0∧S1.length=35∧ev pg (.code L150_0 ⟨qet (qjz x n) [27,28] [num d,y.v],(m4 x n 0++qcs 4)++r⟩)=some { st:=⟨S1,((m4 x n 0++qcs 4)++r)++[⟨0,.arr 0 []⟩,⟨0,.box y.cells⟩]⟩ }:=by
  have hl0:((m4 x n 0++qcs 4)++r:H).length=7 + r.length:=by simp [m4]; omega
  generalize (m4 x n 0++qcs 4)++r=G at *
  have t1:=z0u hl0
  simp [L150_0,hl0,t1]
  exact ⟨_,rfl,rfl,rfl,rfl,rfl⟩
 obtain ⟨S1,g3,g4,g9,hl,e1⟩:=e1
 have e2:∃ S2,ev pg (.code L150_1 ⟨S1,(((m4 x n 0++qcs 4)++r)++z7g y).set 4 ⟨0,.loop (qjz x n) [27,28] L150_0 L150_1 (some .normal)⟩⟩)=some { x:=if qbi y.op y.idx y.args.length n=0 then .normal else .ret,st:=⟨S2,(((m4 x n (qbi y.op y.idx y.args.length n)++qcs 4)++r).set 4 ⟨0,.loop (qjz x n) [27,28] L150_0 L150_1 (some .normal)⟩)++z7g y⟩ }:=by
  generalize qbi y.op y.idx y.args.length n=e at *
  have k1:(((m4 x n 0++qcs 4)++r).set 4 ⟨0,.loop (qjz x n) [27,28] L150_0 L150_1 (some .normal)⟩)[1]?=some ⟨0,.box [num n]⟩:=rfl
  have k2:(((m4 x n 0++qcs 4)++r).set 4 ⟨0,.loop (qjz x n) [27,28] L150_0 L150_1 (some .normal)⟩)[2]?=some ⟨0,.box [num 0]⟩:=rfl
  have hl0:(((m4 x n 0++qcs 4)++r).set 4 ⟨0,.loop (qjz x n) [27,28] L150_0 L150_1 (some .normal)⟩:H).length=7 + r.length:=by simp [m4]; omega
  have s2:∀ z,((((m4 x n 0++qcs 4)++r).set 4 ⟨0,.loop (qjz x n) [27,28] L150_0 L150_1 (some .normal)⟩)++z).set 2 ⟨0,.box [num e]⟩=((m4 x n e++qcs 4)++r).set 4 ⟨0,.loop (qjz x n) [27,28] L150_0 L150_1 (some .normal)⟩++z:=fun z=>rfl
  have h0:e=0→((m4 x n 0++qcs 4)++r).set 4 ⟨0,.loop (qjz x n) [27,28] L150_0 L150_1 (some .normal)⟩=((m4 x n e++qcs 4)++r).set 4 ⟨0,.loop (qjz x n) [27,28] L150_0 L150_1 (some .normal)⟩:=fun h=>by rw [h]
  rw [List.set_append_left _ _ (by simp [m4])]
  generalize ((m4 x n 0++qcs 4)++r).set 4 ⟨0,.loop (qjz x n) [27,28] L150_0 L150_1 (some .normal)⟩=G at *
  generalize ((m4 x n e++qcs 4)++r).set 4 ⟨0,.loop (qjz x n) [27,28] L150_0 L150_1 (some .normal)⟩=G2 at *
  have a1:=z7m hl0
  have k1':=fun z=>qhl z k1
  have k2':=fun z=>qhl z k2
  rw [qah hl]
  by_cases he:e=0
  ·rw [h0 he] at *
   simp [-getElem?_pos,L150_1,List.range,List.range.loop,g3,g4,g9,a1,k1',h188,he]
  ·simp [-getElem?_pos,L150_1,List.range,List.range.loop,g3,g4,g9,a1,k1',k2',s2,h188,he]
 obtain ⟨S2,e2⟩:=e2
 have hr2:=hr (qgm n 0 d y)
 have hcl:=q1p hr2 (k:=4) (g:=0) (sl:=qjz x n) (ps:=[27,28]) (a:=L150_0) (b:=L150_1) (p:=if qgm n 0 d y=0 then none else some .ret) rfl (some .normal)
 have hck:=qde hcl [⟨0,.arr 0 []⟩,⟨0,.box y.cells⟩]
 rw [List.length_set] at hck
 have hlen:((m4 x n 0++qcs 4)++r:H).length=((m4 x n (qgm n 0 d y)++qcs 4)++r:H).length:=rfl
 rw [← hlen] at hck
 have hy2:=zdk (P:=pg) (l:=4) (args:=[num d,y.v]) (h:=(m4 x n 0++qcs 4)++r) (g:=0) (sl:=qjz x n) (ps:=[27,28]) (a:=L150_0) (b:=L150_1) (by simp [m4]) rfl e1 (g1:=0) (sl1:=qjz x n) (ps1:=[27,28]) (a1:=L150_0) (b1:=L150_1) (by simp [m4]) e2 (g2:=0) (sl2:=qjz x n) (ps2:=[27,28]) (as2:=L150_0) (bd2:=L150_1) (p2:=some .normal) (by
  show (qam _ (((m4 x n (qgm n 0 d y)++qcs 4)++r).set 4 _++_))[4]?=_
  rw [hck]; rfl)
 rw [hy2]
 show some ({ v:=_,st:=⟨[],(qam _ (((m4 x n (qgm n 0 d y)++qcs 4)++r).set 4 _++_)).set 4 _⟩ }:Am.R)=_
 rw [hck]
 by_cases h:qbi y.op y.idx y.args.length n=0
 ·simp [qku,qgm,h,m4]
 ·simp [qku,qgm,h,m4]
theorem znj (n:Int):∀ (x:Ex) (d:Nat) (e:Int),qkb (qgm n) qku d x e=x.err n:=by
 refine Ex.ind fun x ih d e=>?_
 rw [qxa,q5c]
 have hl:∀ (l:List Ex),(∀ y ∈ l,y ∈ x.args)→qex (qgm n) qku (d + 1) l 0=q1d n l:=by
  intro l
  induction l with
  | nil=>intro _; simp [qex,q1d]
  | cons y l ihl =>
   intro hsub
   rw [qex,ih y (hsub y (by simp)),q1d]
   by_cases h:y.err n=0
   ·rw [h,if_pos (by rfl),if_pos rfl]
    exact ihl fun z hz=>hsub z (by simp [hz])
   ·rw [if_neg (by simp [qku,h]),if_neg h]
 show (if qku (qbi x.op x.idx x.args.length n)=true then qex (qgm n) qku (d + 1) x.args (qbi x.op x.idx x.args.length n) else qbi x.op x.idx x.args.length n)=_
 by_cases h:qbi x.op x.idx x.args.length n=0
 ·rw [h,if_pos rfl]
  show qex (qgm n) qku (d + 1) x.args 0=_
  exact hl x.args fun y hy=>hy
 ·rw [if_neg (by simp [qku,h]),if_neg h]
theorem ev150 (x:Ex) (n:Int) (hx:x.light=true):ev pg (.call (.fn 150 [] []) [x.v,num n] [])=some { v:=num (x.check n),st:=⟨[],[]⟩ }:=by
 have zfk:=ev174 x hx
 have h187:=ev175 x
 rw [qac,pg150]
 by_cases h1:n < 0
 ·simp [ir150,Ex.check,h1]
 ·by_cases h2:256 < n
  ·simp [ir150,Ex.check,h1,h2]
  ·have h201:=ev185 (zvx x n ⟨by omega,by omega⟩) (fun _=>rfl) (fun s=>by simp [qci,m4,qbl]) x 3 (fun _=>rfl) hx 0 rfl
   rw [znj] at h201
   have hc:x.check n=x.err n:=by simp [Ex.check,h1,h2,hx]
   rw [hc]
   generalize x.err n=e at *
   by_cases he:e=0
   ·subst he
    simp [m4] at h201
    simp [ir150,h1,h2,zfk,h187,qgs,h201]
   ·simp [m4,he] at h201
    simp [ir150,h1,h2,zfk,h187,qgs,h201]
end Go.Proofs.YtlhciedghbmjjaaGreat
