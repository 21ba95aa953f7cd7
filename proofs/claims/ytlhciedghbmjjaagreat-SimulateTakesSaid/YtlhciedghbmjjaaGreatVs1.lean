/- Memory in which nothing above is held: what is cut off above it leaves it as it is. The nodes of an expression, one after the other, by the program. -/
import Derived.Test.YtlhciedghbmjjaaGreatEx3
import Derived.Test.YtlhciedghbmjjaaGreatEn2
set_option linter.all false
namespace Go.Proofs.YtlhciedghbmjjaaGreat
open Go Go.Am Go.Proofs
set_option maxRecDepth 100000
def qci (h:H):Prop:=h.map (qbl h.length)=h
theorem q6s {n:Nat} {v:V} (h:qcm n v=v):v.low n=true:=by
 unfold qcm at h
 split at h
 ·assumption
 ·rw [← h]; rfl
theorem qyg {n:Nat}:∀ {l:List V},l.map (qcm n)=l→qeu n l=true
 | [],_=>rfl
 | v :: l,h=>by
  simp only [List.map_cons,List.cons.injEq] at h
  simp only [qeu,q6s h.1,qyg h.2,Bool.and_self]
theorem qtj {m n:Nat} (hmn:m≤n) {o:Ob} (h:qbl m o=o):qbl n o=o:=by
 unfold qbl at h ⊢
 split <;> rename_i hk <;> simp only [hk] at h ⊢
 ·rename_i cells
  have h2:=congrArg Ob.k h
  simp only [hk,K.box.injEq] at h2
  rw [qik (qct hmn _ (qyg h2))]
  rw [← hk]
 ·rename_i sl ps a b p
  have h2:=congrArg Ob.k h
  simp only [hk,K.loop.injEq,and_true] at h2
  rw [qik (qct hmn _ (qyg h2))]
  rw [← hk]
theorem zcx {h:H} {f:Ob→Ob}:(h.map f=h) ↔ ∀ o ∈ h,f o=o:=by
 induction h with
 | nil=>simp
 | cons o h ih=>simp [ih]
theorem qhs {h:H}:qci h ↔ ∀ o ∈ h,qbl h.length o=o:=zcx
theorem qdo {h r:H} (hc:qci h) (hr:∀ o ∈ r,qbl (h.length + r.length) o=o):qci (h++r):=by
 rw [qhs] at hc ⊢
 intro o ho
 rw [List.length_append]
 rcases List.mem_append.1 ho with ho | ho
 ·exact qtj (Nat.le_add_right _ _) (hc o ho)
 ·exact hr o ho
theorem q4w {h:H} (hc:qci h) (r:H):qjq h.length (h++r)=h:=by
 unfold qjq
 rw [List.take_left]
 exact hc
theorem q1k {h:H} (hc:qci h) (r:H):q1z h.length (h++r)=true:=by
 unfold q1z
 rw [List.take_left,List.all_eq_true]
 intro o ho
 have h1:=qhs.1 hc o ho
 unfold qbl at h1
 split <;> try rfl
 rename_i cells hk
 rw [hk] at h1
 simp only at h1
 have h2:=congrArg Ob.k h1
 simp only [hk,K.box.injEq] at h2
 exact qyg h2
theorem qye {h:H} (hc:qci h) (r:H):qay h.length (h++r)=h:=by
 unfold qay
 rw [if_pos (q1k hc r),q4w hc]
theorem qde {h:H} (hc:qci h) (r:H):qam h.length (h++r)=h:=by
 unfold qam
 rw [if_pos (q1k hc r),q4w hc]
theorem qge {h:H} (hc:qci h):qay h.length h=h:=by
 have:=qye hc []
 rwa [List.append_nil] at this
theorem qdg {h:H} (hc:qci h):qam h.length h=h:=by
 have:=qde hc []
 rwa [List.append_nil] at this
def qdd (s:List V):Prop:=∀ v ∈ s,v ≠ .nils
theorem qcb:∀ {s:List V},qdd s→∀ j,qaq s j ≠ .nils
 | [],_,j=>by simp [qaq]
 | v :: s,h,0=>h v (by simp)
 | v :: s,h,j + 1=>qcb (s:=s) (fun w hw=>h w (by simp [hw])) j
theorem qeb:∀ {s:List V} {k:Nat} {v:V},qdd s→v ≠ .nils→qdd (qgj s k v)
 | [],_,_,h,_=>h
 | x :: s,0,v,h,hv=>fun w hw=>by
  rcases List.mem_cons.1 hw with rfl | hw
  ·exact hv
  ·exact h w (by simp [hw])
 | x :: s,k + 1,v,h,hv=>fun w hw=>by
  rcases List.mem_cons.1 hw with rfl | hw
  ·exact h w (by simp)
  ·exact qeb (s:=s) (k:=k) (fun u hu=>h u (by simp [hu])) hv w hw
@[simp] theorem q6q (n:Nat):∀ (s:List V) (k:Nat),qaq (s.map (qcm n)) k=qcm n (qaq s k)
 | [],k=>by simp [qaq]
 | v :: s,0=>rfl
 | v :: s,k + 1=>by simp only [List.map_cons,qaq]; exact q6q n s k
theorem q3d {n:Nat} {s:List V} (h:qdd s):qdd (s.map (qcm n)):=by
 intro v hv
 obtain ⟨w,hw,rfl⟩:=List.mem_map.1 hv
 have:=h w hw
 unfold qcm
 split
 ·exact this
 ·simp
@[simp] theorem zxw {p:Prop} [Decidable p] {v:V}:((if p then v else V.undef)=.nils) ↔ (p∧v=.nils):=by
 split <;> simp_all
theorem zdk {P:Prg} {l:Nat} {args:List V} {h:H} {g:Nat} {sl:List V} {ps:List Nat} {a b:C} (hl:h[l]?=some ⟨g,.loop sl ps a b none⟩) (hn:args.length=ps.length) {s1:List V} {h1:H} (e1:ev P (.code a ⟨qet sl ps args,h⟩)=some { st:=⟨s1,h1⟩ }) {g1:Nat} {sl1:List V} {ps1:List Nat} {a1 b1:C} (hl1:h1[l]?=some ⟨g1,.loop sl1 ps1 a1 b1 none⟩) {r2:R} (e2:ev P (.code b ⟨s1,h1.set l ⟨g1,.loop sl1 ps1 a1 b1 (some .normal)⟩⟩)=some r2) {g2:Nat} {sl2:List V} {ps2:List Nat} {as2 bd2:C} {p2:Option X} (h3:(qam h.length r2.st.h)[l]?=some ⟨g2,.loop sl2 ps2 as2 bd2 p2⟩):ev P (.call (.yld l) args h)=some { v:=.bool (decide (r2.x=.normal)),st:=⟨[],(qam h.length r2.st.h).set l ⟨g2,.loop sl2 ps2 as2 bd2 (if r2.x=.normal then none else some r2.x)⟩⟩ }:=by
 rw [qjb]
 simp only [qbz,hl,hn,if_true,e1,hl1,e2,h3]
 cases r2.x <;> rfl
theorem qgs {P:Prg} (f:A) (ps:List Nat) (a b:C) (st:St):ev P (.code (.range f ps a b) st)=(match f.ev (qcz st).s with
  | .fn fid first caps =>
   match ev P (.call (.fn fid first caps) [.yld (qcz st).h.length] ((qcz st).h++[⟨0,.loop (qcz st).s ps a b none⟩])) with
   | some r=>match r.st.h[(qcz st).h.length]? with
    | some ⟨g,.loop sl2 ps2 as2 bd2 p⟩ =>
     match p with
     | none=>some { st:=⟨(qcz st).s,qam (qcz st).h.length (r.st.h.set (qcz st).h.length ⟨g,.loop sl2 ps2 as2 bd2 (some .normal)⟩)⟩ }
     | some .normal=>none
     | some x=>some { x:=x,st:=⟨(qcz st).s,qam (qcz st).h.length (r.st.h.set (qcz st).h.length ⟨g,.loop sl2 ps2 as2 bd2 (some .normal)⟩)⟩ }
    | _=>none
   | none=>none
  | _=>none):=by rw [qjb]; rfl
section
variable {S:Type} (step:S→Nat→Ex→S) (run:S→Bool)
mutual
def qkb (d:Nat):Ex→S→S
 | .mk o i l,s=>if run (step s d (.mk o i l))=true then qex (d + 1) l (step s d (.mk o i l)) else step s d (.mk o i l)
def qex (d:Nat):List Ex→S→S
 | [],s=>s
 | y :: r,s=>if run (qkb d y s)=true then qex d r (qkb d y s) else qkb d y s
end
theorem qxa (d:Nat) (x:Ex) (s:S):qkb step run d x s=if run (step s d x)=true then qex step run (d + 1) x.args (step s d x) else step s d x:=by
 cases x; rw [qkb]; rfl
theorem zdd {d:Nat} {l:List Ex} {k:Nat} {s:S} (hk:k < l.length):qex step run d (l.drop k) s=if run (qkb step run d l[k] s)=true then qex step run d (l.drop (k + 1)) (qkb step run d l[k] s) else qkb step run d l[k] s:=by
 rw [List.drop_eq_getElem_cons hk,qex]
structure Yld (l:Nat) (base:S→H):Prop where
 len:∀ s,(base s).length=l + 3
 g8:∀ s,(base s)[l + 1]?=some ⟨0,.box [.yld l]⟩
 g9:∀ s,(base s)[l + 2]?=some ⟨0,.box [.fn 186 [] [.bptr (l + 1) 0,.bptr (l + 2) 0]]⟩
 yld:∀ s (d:Nat) y r,run s=true→d≤16→y.nodes≤256→(∀ s,qci (base s++r))→ev pg (.call (.yld l) [num d,y.v] (base s++r))=some { v:=.bool (run (step s d y)),st:=⟨[],base (step s d y)++r⟩ }
variable {step run}
theorem z7m {h:H} {n:Nat} (hn:h.length=n) (a b:Ob):(h++[a,b])[n + 1]?=some b:=by
 rw [List.getElem?_append_right (by omega),hn,Nat.add_sub_cancel_left]; rfl
theorem z6z {h:H} {n:Nat} (hn:h.length=n) (a:Ob):(h++[a])[n]?=some a:=by
 rw [List.getElem?_append_right (by omega),hn,Nat.sub_self]; rfl
theorem z0u {h:H} {n:Nat} (hn:h.length=n) (a b c:Ob):(h++[a,b]).set (n + 1) c=h++[a,c]:=by
 rw [List.set_append_right _ _ (by omega),hn,Nat.add_sub_cancel_left]; rfl
theorem qhl {h:H} {k:Nat} {o:Ob} (r:H) (hk:h[k]?=some o):(h++r)[k]?=some o:=by
 rw [List.getElem?_append_left (List.getElem?_eq_some_iff.1 hk).1]; exact hk
structure Keep202 (l:Nat) (x:Ex) (d k:Nat) (st:List V):Prop where
 nn:qdd st
 len:st.length=32
 t1:qaq st 1=num d
 t3:qaq st 3=.bptr (l + 2) 0
 t15:qaq st 15=.imm (x.args.map Ex.row)
 t16:qaq st 16=num x.args.length
 t17:qaq st 17=num k
def z6x (l:Nat) (step:S→Nat→Ex→S) (run:S→Bool) (base:S→H) (x:Ex) (d:Nat) (r:H) (s1:S) (k:Nat) (st:St):Prop:=∃ s,run s=true∧st.h=base s++(r++[⟨0,.box x.cells⟩])∧Keep202 l x d k st.s∧qex step run (d + 1) x.args s1=qex step run (d + 1) (x.args.drop k) s
def z0m (step:S→Nat→Ex→S) (run:S→Bool) (base:S→H) (x:Ex) (d:Nat) (r:H) (s1:S) (q:Am.R):Prop:=q.st.s.length=32∧∃ z,q.st.h=base (qex step run (d + 1) x.args s1)++(r++z)∧((q.x=.exit 0∧run (qex step run (d + 1) x.args s1)=true)∨(q.x=.ret∧qaq q.st.s 6=.bool false∧run (qex step run (d + 1) x.args s1)=false))
theorem zpu {l:Nat} {base:S→H} (hY:Yld step run l base) (x:Ex) (d:Nat) (hd:d + x.depth≤17) (hx:x.nodes≤256) (r:H) (hr:∀ s,qci (base s++r))
  (ih:∀ y ∈ x.args,∀ (d:Nat) (s:S) (r:H),run s=true→d + y.depth≤17→y.nodes≤256→(∀ s,qci (base s++r))→ev pg (.call (.fn 186 [] [.bptr (l + 1) 0,.bptr (l + 2) 0]) [y.v,num d] (base s++r))=some { v:=.bool (run (qkb step run d y s)),st:=⟨[],base (qkb step run d y s)++r⟩ })
  (s1:S) (n:Nat) (hn:n=l + 3 + (r.length + 1)) (st:St) (h0:z6x l step run base x d r s1 0 st):∃ q,ev pg (.code (.going n L186_0) st)=some q∧z0m step run base x d r s1 q:=by
 have hfew:=qga hx
 have hrx:∀ s,qci (base s++(r++[⟨0,.box x.cells⟩])):=fun s=>by
  rw [← List.append_assoc]
  exact qdo (hr s) (by simp)
 refine qbq (z6x l step run base x d r s1) x.args.length (z0m step run base x d r s1) h0 ?_ ?_
 ·rintro k ⟨sl,h⟩ hk ⟨s,hrun,rfl,⟨hnn,hl,e1,e3,e15,e16,e17⟩,hw⟩
  simp only at hl e1 e3 e15 e16 e17
  have hnl:∀ j,qaq sl j ≠ .nils:=qcb hnn
  have hk':(k:Int) < x.args.length:=by omega
  have wk:=qab (n:=(k:Int) + 1) (by omega) (by omega)
  have hmem:=List.getElem_mem hk
  have hyd:x.args[k].depth + 1≤x.depth:=by
   have h1:=qny x
   have h2:=qsl.1 (Nat.le_refl (qju x.args)) _ hmem
   omega
  have hyp:=qim x.args[k]
  have hd16:(d:Int)≤16:=by omega
  have wd:=qab (n:=(d:Int) + 1) (by omega) (by omega)
  have hry:∀ s,qci (base s++(r++[⟨0,.box x.cells⟩,⟨0,.arr 0 []⟩,⟨0,.box x.args[k].cells⟩])):=fun s=>by
   have e:base s++(r++[⟨0,.box x.cells⟩,⟨0,.arr 0 []⟩,⟨0,.box x.args[k].cells⟩])=(base s++(r++[⟨0,.box x.cells⟩]))++[⟨0,.arr 0 []⟩,⟨0,.box x.args[k].cells⟩]:=by simp
   rw [e]
   exact qdo (hrx s) (by simp [qbl])
  have hc:=ih x.args[k] hmem (d + 1) s _ hrun (by omega) (qft hx hmem) hry
  have e0:∀ s,base s++(r++[⟨0,.box x.cells⟩,⟨0,.arr 0 []⟩,⟨0,.box x.args[k].cells⟩])=(base s++(r++[⟨0,.box x.cells⟩]))++[⟨0,.arr 0 []⟩,⟨0,.box x.args[k].cells⟩]:=fun s=>by simp
  rw [e0,e0] at hc
  rw [zdd step run hk] at hw
  generalize hs2:qkb step run (d + 1) x.args[k] s=s2 at *
  have hl0:(base s++(r++[⟨0,.box x.cells⟩]):H).length=n:=by simp [hY.len,hn]
  have hl2:(base s2++(r++[⟨0,.box x.cells⟩]):H).length=n:=by simp [hY.len,hn]
  have g9:=qhl (r++[⟨0,.box x.cells⟩]) (hY.g9 s)
  have hc0:=hrx s
  have hc2:=hrx s2
  have hfin:base s2++(r++[⟨0,.box x.cells⟩,⟨0,.arr 0 []⟩,⟨0,.box x.args[k].cells⟩])=(base s2++(r++[⟨0,.box x.cells⟩]))++[⟨0,.arr 0 []⟩,⟨0,.box x.args[k].cells⟩]:=e0 s2
  have hcut:=qye hc2
  rw [hl2] at hcut
  generalize hG:base s++(r++[⟨0,.box x.cells⟩])=G at *
  generalize hG2:base s2++(r++[⟨0,.box x.cells⟩])=G2 at *
  have g9':∀ z,(G++z)[l + 2]?=some ⟨0,.box [.fn 186 [] [.bptr (l + 1) 0,.bptr (l + 2) 0]]⟩:=fun z=>qhl z g9
  have t1:=z0u hl0
  simp at hc
  rw [qah hl]
  by_cases hb:run s2=true
  ·rw [hb] at hc
   rw [if_pos hb] at hw
   simp [-qay,L186_0,List.range,List.range.loop,e1,e3,e15,e16,e17,hk,hk',hd16,wd,wk,hl0,t1,g9',hc,hcut]
   have h9:l + 2 < n:=by omega
   exact ⟨s2,hb,hG2.symm,⟨by simp [qdd,hnl],rfl,rfl,by simp [h9],rfl,rfl,rfl⟩,hw⟩
  ·have hb':run s2=false:=by simpa using hb
   rw [hb'] at hc
   rw [if_neg hb] at hw
   simp [-qay,L186_0,List.range,List.range.loop,e1,e3,e15,e16,e17,hk,hk',hd16,wd,hl0,t1,g9',hc]
   refine ⟨rfl,[⟨0,.box x.cells⟩,⟨0,.arr 0 []⟩,⟨0,.box x.args[k].cells⟩],?_,.inr ⟨rfl,rfl,by rw [hw]; exact hb'⟩⟩
   rw [hw,hfin]
 ·rintro ⟨sl,h⟩ ⟨s,hrun,rfl,⟨hnn,hl,e1,e3,e15,e16,e17⟩,hw⟩
  simp only [List.drop_length] at hl e1 e3 e15 e16 e17 hw
  rw [qex] at hw
  rw [qah hl]
  simp [L186_0,z0m,List.range,List.range.loop,e1,e3,e15,e16,e17,hw,hrun]
theorem ev186 {l:Nat} {base:S→H} (hY:Yld step run l base):∀ (x:Ex) (d:Nat) (s:S) (r:H),run s=true→d + x.depth≤17→x.nodes≤256→(∀ s,qci (base s++r))→ev pg (.call (.fn 186 [] [.bptr (l + 1) 0,.bptr (l + 2) 0]) [x.v,num d] (base s++r))=some { v:=.bool (run (qkb step run d x s)),st:=⟨[],base (qkb step run d x s)++r⟩ }:=by
 refine Ex.ind fun x ih d s r hrun hd hx hr=>?_
 have hp:=qim x
 have hrx:∀ s,qci (base s++(r++[⟨0,.box x.cells⟩])):=fun s=>by
  rw [← List.append_assoc]
  exact qdo (hr s) (by simp)
 have hy:=hY.yld s d x (r++[⟨0,.box x.cells⟩]) hrun (by omega) hx hrx
 have hloop:=zpu hY x d hd hx r hr ih (step s d x) (l + 3 + (r.length + 1)) rfl
 rw [qxa]
 generalize hs1:step s d x=s1 at *
 have hl0:(base s++r:H).length=l + 3 + r.length:=by simp [hY.len]
 have g8:=qhl r (hY.g8 s)
 have gx:=z6z (h:=base s++r) hl0 ⟨0,.box x.cells⟩
 have e0:∀ s,base s++(r++[⟨0,.box x.cells⟩])=(base s++r)++[⟨0,.box x.cells⟩]:=fun s=>by simp
 have hcut:∀ s z,qam (l + 3 + r.length) (base s++(r++z))=base s++r:=fun s z=>by
  have:=qde (hr s) z
  rw [List.append_assoc] at this
  rw [show (base s++r:H).length=l + 3 + r.length by simp [hY.len]] at this
  exact this
 rw [e0] at hy
 rw [qac,pg186]
 have g8':=qhl [⟨0,.box x.cells⟩] g8
 rw [List.append_assoc] at g8' gx
 rw [← e0] at hy
 by_cases hb:run s1=true
 ·rw [hb] at hy
  simp [-qam,ir186,hY.len,g8',hy,qag]
  generalize hq:ev pg (.code (.going _ L186_0) _)=o
  obtain ⟨q,rfl,hl,z,hh,hQ⟩:∃ q,o=some q∧z0m step run base x d r s1 q:=by
   rw [← hq]
   refine hloop _ ⟨s1,hb,rfl,⟨?_,?_,?_,?_,?_,?_,?_⟩,rfl⟩
   all_goals simp [qdd]
  rcases hQ with ⟨hx,hw⟩ | ⟨hx,h6,hw⟩
  ·simp [-qam,hx,hh,hl,hw,hb,hcut]
  ·simp [-qam,hx,hh,h6,hw,hb,hcut]
 ·have hb':run s1=false:=by simpa using hb
  rw [hb'] at hy
  simp [-qam,ir186,hY.len,g8',hy,hb',hcut]
end
end Go.Proofs.YtlhciedghbmjjaaGreat
