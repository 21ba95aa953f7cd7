/- Memory in which nothing above is held: what is cut off above it leaves it as it is. The nodes of an expression, one after the other, by the program. -/
import Derived.Test.YtlhciedghbmjjaaGreatEx3
import Derived.Test.YtlhciedghbmjjaaGreatEn2
set_option linter.all false
namespace Go.Proofs.YtlhciedghbmjjaaGreat
open Go Go.Am Go.Proofs
set_option maxRecDepth 100000
def calm (h:H):Prop:=h.map (scrubO h.length)=h
theorem scrub1_low {n:Nat} {v:V} (h:scrub1 n v=v):v.low n=true:=by
 unfold scrub1 at h
 split at h
 ·assumption
 ·rw [← h]; rfl
theorem lowL_of {n:Nat}:∀ {l:List V},l.map (scrub1 n)=l→lowL n l=true
 | [],_=>rfl
 | v :: l,h=>by
  simp only [List.map_cons,List.cons.injEq] at h
  simp only [lowL,scrub1_low h.1,lowL_of h.2,Bool.and_self]
theorem scrubO_mono {m n:Nat} (hmn:m≤n) {o:Ob} (h:scrubO m o=o):scrubO n o=o:=by
 unfold scrubO at h ⊢
 split <;> rename_i hk <;> simp only [hk] at h ⊢
 ·rename_i cells
  have h2:=congrArg Ob.k h
  simp only [hk,K.box.injEq] at h2
  rw [scrub_low (lowL_mono hmn _ (lowL_of h2))]
  rw [← hk]
 ·rename_i sl ps a b p
  have h2:=congrArg Ob.k h
  simp only [hk,K.loop.injEq,and_true] at h2
  rw [scrub_low (lowL_mono hmn _ (lowL_of h2))]
  rw [← hk]
theorem map_id_of {h:H} {f:Ob→Ob}:(h.map f=h) ↔ ∀ o ∈ h,f o=o:=by
 induction h with
 | nil=>simp
 | cons o h ih=>simp [ih]
theorem calm_iff {h:H}:calm h ↔ ∀ o ∈ h,scrubO h.length o=o:=map_id_of
theorem calm_app {h r:H} (hc:calm h) (hr:∀ o ∈ r,scrubO (h.length + r.length) o=o):calm (h++r):=by
 rw [calm_iff] at hc ⊢
 intro o ho
 rw [List.length_append]
 rcases List.mem_append.1 ho with ho | ho
 ·exact scrubO_mono (Nat.le_add_right _ _) (hc o ho)
 ·exact hr o ho
theorem cutH_app {h:H} (hc:calm h) (r:H):cutH h.length (h++r)=h:=by
 unfold cutH
 rw [List.take_left]
 exact hc
theorem okCut_app {h:H} (hc:calm h) (r:H):okCut h.length (h++r)=true:=by
 unfold okCut
 rw [List.take_left,List.all_eq_true]
 intro o ho
 have h1:=calm_iff.1 hc o ho
 unfold scrubO at h1
 split <;> try rfl
 rename_i cells hk
 rw [hk] at h1
 simp only at h1
 have h2:=congrArg Ob.k h1
 simp only [hk,K.box.injEq] at h2
 exact lowL_of h2
theorem cutL_app {h:H} (hc:calm h) (r:H):cutL h.length (h++r)=h:=by
 unfold cutL
 rw [if_pos (okCut_app hc r),cutH_app hc]
theorem cutK_app {h:H} (hc:calm h) (r:H):cutK h.length (h++r)=h:=by
 unfold cutK
 rw [if_pos (okCut_app hc r),cutH_app hc]
theorem calm_cutL {h:H} (hc:calm h):cutL h.length h=h:=by
 have:=cutL_app hc []
 rwa [List.append_nil] at this
theorem calm_cutK {h:H} (hc:calm h):cutK h.length h=h:=by
 have:=cutK_app hc []
 rwa [List.append_nil] at this
def noNil (s:List V):Prop:=∀ v ∈ s,v ≠ .nils
theorem noNil_get:∀ {s:List V},noNil s→∀ j,getS s j ≠ .nils
 | [],_,j=>by simp [getS]
 | v :: s,h,0=>h v (by simp)
 | v :: s,h,j + 1=>noNil_get (s:=s) (fun w hw=>h w (by simp [hw])) j
theorem noNil_set:∀ {s:List V} {k:Nat} {v:V},noNil s→v ≠ .nils→noNil (setS s k v)
 | [],_,_,h,_=>h
 | x :: s,0,v,h,hv=>fun w hw=>by
  rcases List.mem_cons.1 hw with rfl | hw
  ·exact hv
  ·exact h w (by simp [hw])
 | x :: s,k + 1,v,h,hv=>fun w hw=>by
  rcases List.mem_cons.1 hw with rfl | hw
  ·exact h w (by simp)
  ·exact noNil_set (s:=s) (k:=k) (fun u hu=>h u (by simp [hu])) hv w hw
@[simp] theorem getS_scrub (n:Nat):∀ (s:List V) (k:Nat),getS (s.map (scrub1 n)) k=scrub1 n (getS s k)
 | [],k=>by simp [getS]
 | v :: s,0=>rfl
 | v :: s,k + 1=>by simp only [List.map_cons,getS]; exact getS_scrub n s k
@[simp] theorem ite_nils {p:Prop} [Decidable p] {v:V}:((if p then v else V.undef)=.nils) ↔ (p∧v=.nils):=by
 split <;> simp_all
theorem ev_yld2 {P:Prg} {l:Nat} {args:List V} {h:H} {g:Nat} {sl:List V} {ps:List Nat} {a b:C} (hl:h[l]?=some ⟨g,.loop sl ps a b none⟩) (hn:args.length=ps.length) {s1:List V} {h1:H} (e1:ev P (.code a ⟨setMany sl ps args,h⟩)=some { st:=⟨s1,h1⟩ }) {g1:Nat} {sl1:List V} {ps1:List Nat} {a1 b1:C} (hl1:h1[l]?=some ⟨g1,.loop sl1 ps1 a1 b1 none⟩) {r2:R} (e2:ev P (.code b ⟨s1,h1.set l ⟨g1,.loop sl1 ps1 a1 b1 (some .normal)⟩⟩)=some r2) {g2:Nat} {sl2:List V} {ps2:List Nat} {as2 bd2:C} {p2:Option X} (h3:(cutK h.length r2.st.h)[l]?=some ⟨g2,.loop sl2 ps2 as2 bd2 p2⟩):ev P (.call (.yld l) args h)=some { v:=.bool (decide (r2.x=.normal)),st:=⟨[],(cutK h.length r2.st.h).set l ⟨g2,.loop sl2 ps2 as2 bd2 (if r2.x=.normal then none else some r2.x)⟩⟩ }:=by
 rw [ev_eq]
 simp only [stepQ,hl,hn,if_true,e1,hl1,e2,h3]
 cases r2.x <;> rfl
theorem ev_range {P:Prg} (f:A) (ps:List Nat) (a b:C) (st:St):ev P (.code (.range f ps a b) st)=(match f.ev (adoptS st).s with
  | .fn fid first caps =>
   match ev P (.call (.fn fid first caps) [.yld (adoptS st).h.length] ((adoptS st).h++[⟨0,.loop (adoptS st).s ps a b none⟩])) with
   | some r=>match r.st.h[(adoptS st).h.length]? with
    | some ⟨g,.loop sl2 ps2 as2 bd2 p⟩ =>
     match p with
     | none=>some { st:=⟨(adoptS st).s,cutK (adoptS st).h.length (r.st.h.set (adoptS st).h.length ⟨g,.loop sl2 ps2 as2 bd2 (some .normal)⟩)⟩ }
     | some .normal=>none
     | some x=>some { x:=x,st:=⟨(adoptS st).s,cutK (adoptS st).h.length (r.st.h.set (adoptS st).h.length ⟨g,.loop sl2 ps2 as2 bd2 (some .normal)⟩)⟩ }
    | _=>none
   | none=>none
  | _=>none):=by rw [ev_eq]; rfl
section
variable {S:Type} (step:S→Nat→Ex→S) (run:S→Bool)
mutual
def walkE (d:Nat):Ex→S→S
 | .mk o i l,s=>if run (step s d (.mk o i l))=true then walkLs (d + 1) l (step s d (.mk o i l)) else step s d (.mk o i l)
def walkLs (d:Nat):List Ex→S→S
 | [],s=>s
 | y :: r,s=>if run (walkE d y s)=true then walkLs d r (walkE d y s) else walkE d y s
end
theorem walkE_eq (d:Nat) (x:Ex) (s:S):walkE step run d x s=if run (step s d x)=true then walkLs step run (d + 1) x.args (step s d x) else step s d x:=by
 cases x; rw [walkE]; rfl
theorem walkLs_at {d:Nat} {l:List Ex} {k:Nat} {s:S} (hk:k < l.length):walkLs step run d (l.drop k) s=if run (walkE step run d l[k] s)=true then walkLs step run d (l.drop (k + 1)) (walkE step run d l[k] s) else walkE step run d l[k] s:=by
 rw [List.drop_eq_getElem_cons hk,walkLs]
structure Yld (l:Nat) (base:S→H):Prop where
 len:∀ s,(base s).length=l + 3
 g8:∀ s,(base s)[l + 1]?=some ⟨0,.box [.yld l]⟩
 g9:∀ s,(base s)[l + 2]?=some ⟨0,.box [.fn 186 [] [.bptr (l + 1) 0,.bptr (l + 2) 0]]⟩
 yld:∀ s (d:Nat) y r,run s=true→d≤16→y.nodes≤256→(∀ s,calm (base s++r))→ev pg (.call (.yld l) [num d,y.v] (base s++r))=some { v:=.bool (run (step s d y)),st:=⟨[],base (step s d y)++r⟩ }
variable {step run}
theorem app1 {h:H} {n:Nat} (hn:h.length=n) (a b:Ob):(h++[a,b])[n + 1]?=some b:=by
 rw [List.getElem?_append_right (by omega),hn,Nat.add_sub_cancel_left]; rfl
theorem app0 {h:H} {n:Nat} (hn:h.length=n) (a:Ob):(h++[a])[n]?=some a:=by
 rw [List.getElem?_append_right (by omega),hn,Nat.sub_self]; rfl
theorem set1 {h:H} {n:Nat} (hn:h.length=n) (a b c:Ob):(h++[a,b]).set (n + 1) c=h++[a,c]:=by
 rw [List.set_append_right _ _ (by omega),hn,Nat.add_sub_cancel_left]; rfl
theorem app_low {h:H} {k:Nat} {o:Ob} (r:H) (hk:h[k]?=some o):(h++r)[k]?=some o:=by
 rw [List.getElem?_append_left (List.getElem?_eq_some_iff.1 hk).1]; exact hk
structure Keep202 (l:Nat) (x:Ex) (d k:Nat) (st:List V):Prop where
 nn:noNil st
 len:st.length=32
 t1:getS st 1=num d
 t3:getS st 3=.bptr (l + 2) 0
 t15:getS st 15=.imm (x.args.map Ex.row)
 t16:getS st 16=num x.args.length
 t17:getS st 17=num k
def I202 (l:Nat) (step:S→Nat→Ex→S) (run:S→Bool) (base:S→H) (x:Ex) (d:Nat) (r:H) (s1:S) (k:Nat) (st:St):Prop:=∃ s,run s=true∧st.h=base s++(r++[⟨0,.box x.cells⟩])∧Keep202 l x d k st.s∧walkLs step run (d + 1) x.args s1=walkLs step run (d + 1) (x.args.drop k) s
def Q202 (step:S→Nat→Ex→S) (run:S→Bool) (base:S→H) (x:Ex) (d:Nat) (r:H) (s1:S) (q:Am.R):Prop:=q.st.s.length=32∧∃ z,q.st.h=base (walkLs step run (d + 1) x.args s1)++(r++z)∧((q.x=.exit 0∧run (walkLs step run (d + 1) x.args s1)=true)∨(q.x=.ret∧getS q.st.s 6=.bool false∧run (walkLs step run (d + 1) x.args s1)=false))
theorem loop202 {l:Nat} {base:S→H} (hY:Yld step run l base) (x:Ex) (d:Nat) (hd:d + x.depth≤17) (hx:x.nodes≤256) (r:H) (hr:∀ s,calm (base s++r))
  (ih:∀ y ∈ x.args,∀ (d:Nat) (s:S) (r:H),run s=true→d + y.depth≤17→y.nodes≤256→(∀ s,calm (base s++r))→ev pg (.call (.fn 186 [] [.bptr (l + 1) 0,.bptr (l + 2) 0]) [y.v,num d] (base s++r))=some { v:=.bool (run (walkE step run d y s)),st:=⟨[],base (walkE step run d y s)++r⟩ })
  (s1:S) (n:Nat) (hn:n=l + 3 + (r.length + 1)) (st:St) (h0:I202 l step run base x d r s1 0 st):∃ q,ev pg (.code (.going n L186_0) st)=some q∧Q202 step run base x d r s1 q:=by
 have hfew:=args_few hx
 have hrx:∀ s,calm (base s++(r++[⟨0,.box x.cells⟩])):=fun s=>by
  rw [← List.append_assoc]
  exact calm_app (hr s) (by simp)
 refine loop_from (I202 l step run base x d r s1) x.args.length (Q202 step run base x d r s1) h0 ?_ ?_
 ·rintro k ⟨sl,h⟩ hk ⟨s,hrun,rfl,⟨hnn,hl,e1,e3,e15,e16,e17⟩,hw⟩
  simp only at hl e1 e3 e15 e16 e17
  have hnl:∀ j,getS sl j ≠ .nils:=noNil_get hnn
  have hk':(k:Int) < x.args.length:=by omega
  have wk:=wrap_id (n:=(k:Int) + 1) (by omega) (by omega)
  have hmem:=List.getElem_mem hk
  have hyd:x.args[k].depth + 1≤x.depth:=by
   have h1:=depth_eq x
   have h2:=depthL_le.1 (Nat.le_refl (depthL x.args)) _ hmem
   omega
  have hyp:=depth_pos x.args[k]
  have hd16:(d:Int)≤16:=by omega
  have wd:=wrap_id (n:=(d:Int) + 1) (by omega) (by omega)
  have hry:∀ s,calm (base s++(r++[⟨0,.box x.cells⟩,⟨0,.arr 0 []⟩,⟨0,.box x.args[k].cells⟩])):=fun s=>by
   have e:base s++(r++[⟨0,.box x.cells⟩,⟨0,.arr 0 []⟩,⟨0,.box x.args[k].cells⟩])=(base s++(r++[⟨0,.box x.cells⟩]))++[⟨0,.arr 0 []⟩,⟨0,.box x.args[k].cells⟩]:=by simp
   rw [e]
   exact calm_app (hrx s) (by simp [scrubO])
  have hc:=ih x.args[k] hmem (d + 1) s _ hrun (by omega) (args_nodes hx hmem) hry
  have e0:∀ s,base s++(r++[⟨0,.box x.cells⟩,⟨0,.arr 0 []⟩,⟨0,.box x.args[k].cells⟩])=(base s++(r++[⟨0,.box x.cells⟩]))++[⟨0,.arr 0 []⟩,⟨0,.box x.args[k].cells⟩]:=fun s=>by simp
  rw [e0,e0] at hc
  rw [walkLs_at step run hk] at hw
  generalize hs2:walkE step run (d + 1) x.args[k] s=s2 at *
  have hl0:(base s++(r++[⟨0,.box x.cells⟩]):H).length=n:=by simp [hY.len,hn]
  have hl2:(base s2++(r++[⟨0,.box x.cells⟩]):H).length=n:=by simp [hY.len,hn]
  have g9:=app_low (r++[⟨0,.box x.cells⟩]) (hY.g9 s)
  have hc0:=hrx s
  have hc2:=hrx s2
  have hfin:base s2++(r++[⟨0,.box x.cells⟩,⟨0,.arr 0 []⟩,⟨0,.box x.args[k].cells⟩])=(base s2++(r++[⟨0,.box x.cells⟩]))++[⟨0,.arr 0 []⟩,⟨0,.box x.args[k].cells⟩]:=e0 s2
  have hcut:=cutL_app hc2
  rw [hl2] at hcut
  generalize hG:base s++(r++[⟨0,.box x.cells⟩])=G at *
  generalize hG2:base s2++(r++[⟨0,.box x.cells⟩])=G2 at *
  have g9':∀ z,(G++z)[l + 2]?=some ⟨0,.box [.fn 186 [] [.bptr (l + 1) 0,.bptr (l + 2) 0]]⟩:=fun z=>app_low z g9
  have t1:=set1 hl0
  simp at hc
  rw [getS_expand hl]
  by_cases hb:run s2=true
  ·rw [hb] at hc
   rw [if_pos hb] at hw
   simp [-cutL,L186_0,List.range,List.range.loop,e1,e3,e15,e16,e17,hk,hk',hd16,wd,wk,hl0,t1,g9',hc,hcut]
   have h9:l + 2 < n:=by omega
   exact ⟨s2,hb,hG2.symm,⟨by simp [noNil,hnl],rfl,rfl,by simp [h9],rfl,rfl,rfl⟩,hw⟩
  ·have hb':run s2=false:=by simpa using hb
   rw [hb'] at hc
   rw [if_neg hb] at hw
   simp [-cutL,L186_0,List.range,List.range.loop,e1,e3,e15,e16,e17,hk,hk',hd16,wd,hl0,t1,g9',hc]
   refine ⟨rfl,[⟨0,.box x.cells⟩,⟨0,.arr 0 []⟩,⟨0,.box x.args[k].cells⟩],?_,.inr ⟨rfl,rfl,by rw [hw]; exact hb'⟩⟩
   rw [hw,hfin]
 ·rintro ⟨sl,h⟩ ⟨s,hrun,rfl,⟨hnn,hl,e1,e3,e15,e16,e17⟩,hw⟩
  simp only [List.drop_length] at hl e1 e3 e15 e16 e17 hw
  rw [walkLs] at hw
  rw [getS_expand hl]
  simp [L186_0,Q202,List.range,List.range.loop,e1,e3,e15,e16,e17,hw,hrun]
theorem ev186 {l:Nat} {base:S→H} (hY:Yld step run l base):∀ (x:Ex) (d:Nat) (s:S) (r:H),run s=true→d + x.depth≤17→x.nodes≤256→(∀ s,calm (base s++r))→ev pg (.call (.fn 186 [] [.bptr (l + 1) 0,.bptr (l + 2) 0]) [x.v,num d] (base s++r))=some { v:=.bool (run (walkE step run d x s)),st:=⟨[],base (walkE step run d x s)++r⟩ }:=by
 refine Ex.ind fun x ih d s r hrun hd hx hr=>?_
 have hp:=depth_pos x
 have hrx:∀ s,calm (base s++(r++[⟨0,.box x.cells⟩])):=fun s=>by
  rw [← List.append_assoc]
  exact calm_app (hr s) (by simp)
 have hy:=hY.yld s d x (r++[⟨0,.box x.cells⟩]) hrun (by omega) hx hrx
 have hloop:=loop202 hY x d hd hx r hr ih (step s d x) (l + 3 + (r.length + 1)) rfl
 rw [walkE_eq]
 generalize hs1:step s d x=s1 at *
 have hl0:(base s++r:H).length=l + 3 + r.length:=by simp [hY.len]
 have g8:=app_low r (hY.g8 s)
 have gx:=app0 (h:=base s++r) hl0 ⟨0,.box x.cells⟩
 have e0:∀ s,base s++(r++[⟨0,.box x.cells⟩])=(base s++r)++[⟨0,.box x.cells⟩]:=fun s=>by simp
 have hcut:∀ s z,cutK (l + 3 + r.length) (base s++(r++z))=base s++r:=fun s z=>by
  have:=cutK_app (hr s) z
  rw [List.append_assoc] at this
  rw [show (base s++r:H).length=l + 3 + r.length by simp [hY.len]] at this
  exact this
 rw [e0] at hy
 rw [ev_call,pg186]
 have g8':=app_low [⟨0,.box x.cells⟩] g8
 rw [List.append_assoc] at g8' gx
 rw [← e0] at hy
 by_cases hb:run s1=true
 ·rw [hb] at hy
  simp [-cutK,ir186,hY.len,g8',hy,ev_loop]
  generalize hq:ev pg (.code (.going _ L186_0) _)=o
  obtain ⟨q,rfl,hl,z,hh,hQ⟩:∃ q,o=some q∧Q202 step run base x d r s1 q:=by
   rw [← hq]
   refine hloop _ ⟨s1,hb,rfl,⟨?_,?_,?_,?_,?_,?_,?_⟩,rfl⟩
   all_goals simp [noNil]
  rcases hQ with ⟨hx,hw⟩ | ⟨hx,h6,hw⟩
  ·simp [-cutK,hx,hh,hl,hw,hb,hcut]
  ·simp [-cutK,hx,hh,h6,hw,hb,hcut]
 ·have hb':run s1=false:=by simpa using hb
  rw [hb'] at hy
  simp [-cutK,ir186,hY.len,g8',hy,hb',hcut]
end
end Go.Proofs.YtlhciedghbmjjaaGreat
