/- Memory in which nothing above is held: what is cut off above it leaves it as it is. The nodes of an expression, one after the other, by the program. All nodes of an expression; how many, and how deep; the errors of an expression, by the program. The errors of an expression, by the program. -/
import Derived.Test.YtbhkplbciajikaaGreatEx3
import Derived.Test.YtbhkplbciajikaaGreatEn2
set_option linter.all false
namespace Go.Proofs.YtbhkplbciajikaaGreat
open Go Go.Am Go.Proofs
set_option maxRecDepth 100000
def calm (h:H):Prop:=h.map (scrubO h.length)=h
theorem scrub1_low {n:Nat} {v:V} (h:scrub1 n v=v):v.low n=true:=by
 unfold scrub1 at h
 split at h
 ·assumption
 ·rw [← h]; rfl
theorem lowL_of {n:Nat}:∀ {l:List V},l.map (scrub1 n)=l→lowL n l=true
 | [],_=>rfl
 | v :: l,h=>by
  simp only [List.map_cons,List.cons.injEq] at h
  simp only [lowL,scrub1_low h.1,lowL_of h.2,Bool.and_self]
theorem scrubO_mono {m n:Nat} (hmn:m≤n) {o:Ob} (h:scrubO m o=o):scrubO n o=o:=by
 unfold scrubO at h ⊢
 split <;> rename_i hk <;> simp only [hk] at h ⊢
 ·rename_i cells
  have h2:=congrArg Ob.k h
  simp only [hk,K.box.injEq] at h2
  rw [scrub_low (lowL_mono hmn _ (lowL_of h2))]
  rw [← hk]
 ·rename_i sl ps a b p
  have h2:=congrArg Ob.k h
  simp only [hk,K.loop.injEq,and_true] at h2
  rw [scrub_low (lowL_mono hmn _ (lowL_of h2))]
  rw [← hk]
theorem map_id_of {h:H} {f:Ob→Ob}:(h.map f=h) ↔ ∀ o ∈ h,f o=o:=by
 induction h with
 | nil=>simp
 | cons o h ih=>simp [ih]
theorem calm_iff {h:H}:calm h ↔ ∀ o ∈ h,scrubO h.length o=o:=map_id_of
theorem calm_app {h r:H} (hc:calm h) (hr:∀ o ∈ r,scrubO (h.length + r.length) o=o):calm (h++r):=by
 rw [calm_iff] at hc ⊢
 intro o ho
 rw [List.length_append]
 rcases List.mem_append.1 ho with ho | ho
 ·exact scrubO_mono (Nat.le_add_right _ _) (hc o ho)
 ·exact hr o ho
theorem cutH_app {h:H} (hc:calm h) (r:H):cutH h.length (h++r)=h:=by
 unfold cutH
 rw [List.take_left]
 exact hc
theorem okCut_app {h:H} (hc:calm h) (r:H):okCut h.length (h++r)=true:=by
 unfold okCut
 rw [List.take_left,List.all_eq_true]
 intro o ho
 have h1:=calm_iff.1 hc o ho
 unfold scrubO at h1
 split <;> try rfl
 rename_i cells hk
 rw [hk] at h1
 simp only at h1
 have h2:=congrArg Ob.k h1
 simp only [hk,K.box.injEq] at h2
 exact lowL_of h2
theorem cutL_app {h:H} (hc:calm h) (r:H):cutL h.length (h++r)=h:=by
 unfold cutL
 rw [if_pos (okCut_app hc r),cutH_app hc]
theorem cutK_app {h:H} (hc:calm h) (r:H):cutK h.length (h++r)=h:=by
 unfold cutK
 rw [if_pos (okCut_app hc r),cutH_app hc]
theorem calm_cutL {h:H} (hc:calm h):cutL h.length h=h:=by
 have:=cutL_app hc []
 rwa [List.append_nil] at this
theorem calm_cutK {h:H} (hc:calm h):cutK h.length h=h:=by
 have:=cutK_app hc []
 rwa [List.append_nil] at this
def noNil (s:List V):Prop:=∀ v ∈ s,v ≠ .nils
theorem noNil_get:∀ {s:List V},noNil s→∀ j,getS s j ≠ .nils
 | [],_,j=>by simp [getS]
 | v :: s,h,0=>h v (by simp)
 | v :: s,h,j + 1=>noNil_get (s:=s) (fun w hw=>h w (by simp [hw])) j
theorem noNil_set:∀ {s:List V} {k:Nat} {v:V},noNil s→v ≠ .nils→noNil (setS s k v)
 | [],_,_,h,_=>h
 | x :: s,0,v,h,hv=>fun w hw=>by
  rcases List.mem_cons.1 hw with rfl | hw
  ·exact hv
  ·exact h w (by simp [hw])
 | x :: s,k + 1,v,h,hv=>fun w hw=>by
  rcases List.mem_cons.1 hw with rfl | hw
  ·exact h w (by simp)
  ·exact noNil_set (s:=s) (k:=k) (fun u hu=>h u (by simp [hu])) hv w hw
@[simp] theorem getS_scrub (n:Nat):∀ (s:List V) (k:Nat),getS (s.map (scrub1 n)) k=scrub1 n (getS s k)
 | [],k=>by simp [getS]
 | v :: s,0=>rfl
 | v :: s,k + 1=>by simp only [List.map_cons,getS]; exact getS_scrub n s k
theorem noNil_scrub {n:Nat} {s:List V} (h:noNil s):noNil (s.map (scrub1 n)):=by
 intro v hv
 obtain ⟨w,hw,rfl⟩:=List.mem_map.1 hv
 have:=h w hw
 unfold scrub1
 split
 ·exact this
 ·simp
@[simp] theorem ite_nils {p:Prop} [Decidable p] {v:V}:((if p then v else V.undef)=.nils) ↔ (p∧v=.nils):=by
 split <;> simp_all
theorem ev_yld2 {P:Prg} {l:Nat} {args:List V} {h:H} {g:Nat} {sl:List V} {ps:List Nat} {a b:C} (hl:h[l]?=some ⟨g,.loop sl ps a b none⟩) (hn:args.length=ps.length) {s1:List V} {h1:H} (e1:ev P (.code a ⟨setMany sl ps args,h⟩)=some { st:=⟨s1,h1⟩ }) {g1:Nat} {sl1:List V} {ps1:List Nat} {a1 b1:C} (hl1:h1[l]?=some ⟨g1,.loop sl1 ps1 a1 b1 none⟩) {r2:R} (e2:ev P (.code b ⟨s1,h1.set l ⟨g1,.loop sl1 ps1 a1 b1 (some .normal)⟩⟩)=some r2) {g2:Nat} {sl2:List V} {ps2:List Nat} {as2 bd2:C} {p2:Option X} (h3:(cutK h.length r2.st.h)[l]?=some ⟨g2,.loop sl2 ps2 as2 bd2 p2⟩):ev P (.call (.yld l) args h)=some { v:=.bool (decide (r2.x=.normal)),st:=⟨[],(cutK h.length r2.st.h).set l ⟨g2,.loop sl2 ps2 as2 bd2 (if r2.x=.normal then none else some r2.x)⟩⟩ }:=by
 rw [ev_eq]
 simp only [stepQ,hl,hn,if_true,e1,hl1,e2,h3]
 cases r2.x <;> rfl
theorem ev_range {P:Prg} (f:A) (ps:List Nat) (a b:C) (st:St):ev P (.code (.range f ps a b) st)=(match f.ev (adoptS st).s with
  | .fn fid first caps =>
   match ev P (.call (.fn fid first caps) [.yld (adoptS st).h.length] ((adoptS st).h++[⟨0,.loop (adoptS st).s ps a b none⟩])) with
   | some r=>match r.st.h[(adoptS st).h.length]? with
    | some ⟨g,.loop sl2 ps2 as2 bd2 p⟩ =>
     match p with
     | none=>some { st:=⟨(adoptS st).s,cutK (adoptS st).h.length (r.st.h.set (adoptS st).h.length ⟨g,.loop sl2 ps2 as2 bd2 (some .normal)⟩)⟩ }
     | some .normal=>none
     | some x=>some { x:=x,st:=⟨(adoptS st).s,cutK (adoptS st).h.length (r.st.h.set (adoptS st).h.length ⟨g,.loop sl2 ps2 as2 bd2 (some .normal)⟩)⟩ }
    | _=>none
   | none=>none
  | _=>none):=by rw [ev_eq]; rfl
section
variable {S:Type} (step:S→Nat→Ex→S) (run:S→Bool)
mutual
def walkE (d:Nat):Ex→S→S
 | .mk o i l,s=>if run (step s d (.mk o i l))=true then walkLs (d + 1) l (step s d (.mk o i l)) else step s d (.mk o i l)
def walkLs (d:Nat):List Ex→S→S
 | [],s=>s
 | y :: r,s=>if run (walkE d y s)=true then walkLs d r (walkE d y s) else walkE d y s
end
theorem walkE_eq (d:Nat) (x:Ex) (s:S):walkE step run d x s=if run (step s d x)=true then walkLs step run (d + 1) x.args (step s d x) else step s d x:=by
 cases x; rw [walkE]; rfl
theorem walkLs_at {d:Nat} {l:List Ex} {k:Nat} {s:S} (hk:k < l.length):walkLs step run d (l.drop k) s=if run (walkE step run d l[k] s)=true then walkLs step run d (l.drop (k + 1)) (walkE step run d l[k] s) else walkE step run d l[k] s:=by
 rw [List.drop_eq_getElem_cons hk,walkLs]
structure Yld (l:Nat) (base:S→H):Prop where
 len:∀ s,(base s).length=l + 3
 g8:∀ s,(base s)[l + 1]?=some ⟨0,.box [.yld l]⟩
 g9:∀ s,(base s)[l + 2]?=some ⟨0,.box [.fn 185 [] [.bptr (l + 1) 0,.bptr (l + 2) 0]]⟩
 yld:∀ s (d:Nat) y r,run s=true→d≤16→y.nodes≤256→(∀ s,calm (base s++r))→ev pg (.call (.yld l) [num d,y.v] (base s++r))=some { v:=.bool (run (step s d y)),st:=⟨[],base (step s d y)++r⟩ }
variable {step run}
theorem app1 {h:H} {n:Nat} (hn:h.length=n) (a b:Ob):(h++[a,b])[n + 1]?=some b:=by
 rw [List.getElem?_append_right (by omega),hn,Nat.add_sub_cancel_left]; rfl
theorem app0 {h:H} {n:Nat} (hn:h.length=n) (a:Ob):(h++[a])[n]?=some a:=by
 rw [List.getElem?_append_right (by omega),hn,Nat.sub_self]; rfl
theorem set1 {h:H} {n:Nat} (hn:h.length=n) (a b c:Ob):(h++[a,b]).set (n + 1) c=h++[a,c]:=by
 rw [List.set_append_right _ _ (by omega),hn,Nat.add_sub_cancel_left]; rfl
theorem app_low {h:H} {k:Nat} {o:Ob} (r:H) (hk:h[k]?=some o):(h++r)[k]?=some o:=by
 rw [List.getElem?_append_left (List.getElem?_eq_some_iff.1 hk).1]; exact hk
structure Keep202 (l:Nat) (x:Ex) (d k:Nat) (st:List V):Prop where
 nn:noNil st
 len:st.length=32
 t1:getS st 1=num d
 t3:getS st 3=.bptr (l + 2) 0
 t15:getS st 15=.imm (x.args.map Ex.row)
 t16:getS st 16=num x.args.length
 t17:getS st 17=num k
def I202 (l:Nat) (step:S→Nat→Ex→S) (run:S→Bool) (base:S→H) (x:Ex) (d:Nat) (r:H) (s1:S) (k:Nat) (st:St):Prop:=∃ s,run s=true∧st.h=base s++(r++[⟨0,.box x.cells⟩])∧Keep202 l x d k st.s∧walkLs step run (d + 1) x.args s1=walkLs step run (d + 1) (x.args.drop k) s
def Q202 (step:S→Nat→Ex→S) (run:S→Bool) (base:S→H) (x:Ex) (d:Nat) (r:H) (s1:S) (q:Am.R):Prop:=q.st.s.length=32∧∃ z,q.st.h=base (walkLs step run (d + 1) x.args s1)++(r++z)∧((q.x=.exit 0∧run (walkLs step run (d + 1) x.args s1)=true)∨(q.x=.ret∧getS q.st.s 6=.bool false∧run (walkLs step run (d + 1) x.args s1)=false))
theorem loop202 {l:Nat} {base:S→H} (hY:Yld step run l base) (x:Ex) (d:Nat) (hd:d + x.depth≤17) (hx:x.nodes≤256) (r:H) (hr:∀ s,calm (base s++r))
  (ih:∀ y ∈ x.args,∀ (d:Nat) (s:S) (r:H),run s=true→d + y.depth≤17→y.nodes≤256→(∀ s,calm (base s++r))→ev pg (.call (.fn 185 [] [.bptr (l + 1) 0,.bptr (l + 2) 0]) [y.v,num d] (base s++r))=some { v:=.bool (run (walkE step run d y s)),st:=⟨[],base (walkE step run d y s)++r⟩ })
  (s1:S) (n:Nat) (hn:n=l + 3 + (r.length + 1)) (st:St) (h0:I202 l step run base x d r s1 0 st):∃ q,ev pg (.code (.going n L185_0) st)=some q∧Q202 step run base x d r s1 q:=by
 have hfew:=args_few hx
 have hrx:∀ s,calm (base s++(r++[⟨0,.box x.cells⟩])):=fun s=>by
  rw [← List.append_assoc]
  exact calm_app (hr s) (by simp)
 refine loop_from (I202 l step run base x d r s1) x.args.length (Q202 step run base x d r s1) h0 ?_ ?_
 ·rintro k ⟨sl,h⟩ hk ⟨s,hrun,rfl,⟨hnn,hl,e1,e3,e15,e16,e17⟩,hw⟩
  simp only at hl e1 e3 e15 e16 e17
  have hnl:∀ j,getS sl j ≠ .nils:=noNil_get hnn
  have hk':(k:Int) < x.args.length:=by omega
  have wk:=wrap_id (n:=(k:Int) + 1) (by omega) (by omega)
  have hmem:=List.getElem_mem hk
  have hyd:x.args[k].depth + 1≤x.depth:=by
   have h1:=depth_eq x
   have h2:=depthL_le.1 (Nat.le_refl (depthL x.args)) _ hmem
   omega
  have hyp:=depth_pos x.args[k]
  have hd16:(d:Int)≤16:=by omega
  have wd:=wrap_id (n:=(d:Int) + 1) (by omega) (by omega)
  have hry:∀ s,calm (base s++(r++[⟨0,.box x.cells⟩,⟨0,.arr 0 []⟩,⟨0,.box x.args[k].cells⟩])):=fun s=>by
   have e:base s++(r++[⟨0,.box x.cells⟩,⟨0,.arr 0 []⟩,⟨0,.box x.args[k].cells⟩])=(base s++(r++[⟨0,.box x.cells⟩]))++[⟨0,.arr 0 []⟩,⟨0,.box x.args[k].cells⟩]:=by simp
   rw [e]
   exact calm_app (hrx s) (by simp [scrubO])
  have hc:=ih x.args[k] hmem (d + 1) s _ hrun (by omega) (args_nodes hx hmem) hry
  have e0:∀ s,base s++(r++[⟨0,.box x.cells⟩,⟨0,.arr 0 []⟩,⟨0,.box x.args[k].cells⟩])=(base s++(r++[⟨0,.box x.cells⟩]))++[⟨0,.arr 0 []⟩,⟨0,.box x.args[k].cells⟩]:=fun s=>by simp
  rw [e0,e0] at hc
  rw [walkLs_at step run hk] at hw
  generalize hs2:walkE step run (d + 1) x.args[k] s=s2 at *
  have hl0:(base s++(r++[⟨0,.box x.cells⟩]):H).length=n:=by simp [hY.len,hn]
  have hl2:(base s2++(r++[⟨0,.box x.cells⟩]):H).length=n:=by simp [hY.len,hn]
  have g9:=app_low (r++[⟨0,.box x.cells⟩]) (hY.g9 s)
  have hc0:=hrx s
  have hc2:=hrx s2
  have hfin:base s2++(r++[⟨0,.box x.cells⟩,⟨0,.arr 0 []⟩,⟨0,.box x.args[k].cells⟩])=(base s2++(r++[⟨0,.box x.cells⟩]))++[⟨0,.arr 0 []⟩,⟨0,.box x.args[k].cells⟩]:=e0 s2
  have hcut:=cutL_app hc2
  rw [hl2] at hcut
  generalize hG:base s++(r++[⟨0,.box x.cells⟩])=G at *
  generalize hG2:base s2++(r++[⟨0,.box x.cells⟩])=G2 at *
  have g9':∀ z,(G++z)[l + 2]?=some ⟨0,.box [.fn 185 [] [.bptr (l + 1) 0,.bptr (l + 2) 0]]⟩:=fun z=>app_low z g9
  have t1:=set1 hl0
  simp at hc
  rw [getS_expand hl]
  by_cases hb:run s2=true
  ·rw [hb] at hc
   rw [if_pos hb] at hw
   simp [-cutL,L185_0,List.range,List.range.loop,e1,e3,e15,e16,e17,hk,hk',hd16,wd,wk,hl0,t1,g9',hc,hcut]
   have h9:l + 2 < n:=by omega
   exact ⟨s2,hb,hG2.symm,⟨by simp [noNil,hnl],rfl,rfl,by simp [h9],rfl,rfl,rfl⟩,hw⟩
  ·have hb':run s2=false:=by simpa using hb
   rw [hb'] at hc
   rw [if_neg hb] at hw
   simp [-cutL,L185_0,List.range,List.range.loop,e1,e3,e15,e16,e17,hk,hk',hd16,wd,hl0,t1,g9',hc]
   refine ⟨rfl,[⟨0,.box x.cells⟩,⟨0,.arr 0 []⟩,⟨0,.box x.args[k].cells⟩],?_,.inr ⟨rfl,rfl,by rw [hw]; exact hb'⟩⟩
   rw [hw,hfin]
 ·rintro ⟨sl,h⟩ ⟨s,hrun,rfl,⟨hnn,hl,e1,e3,e15,e16,e17⟩,hw⟩
  simp only [List.drop_length] at hl e1 e3 e15 e16 e17 hw
  rw [walkLs] at hw
  rw [getS_expand hl]
  simp [L185_0,Q202,List.range,List.range.loop,e1,e3,e15,e16,e17,hw,hrun]
theorem ev185 {l:Nat} {base:S→H} (hY:Yld step run l base):∀ (x:Ex) (d:Nat) (s:S) (r:H),run s=true→d + x.depth≤17→x.nodes≤256→(∀ s,calm (base s++r))→ev pg (.call (.fn 185 [] [.bptr (l + 1) 0,.bptr (l + 2) 0]) [x.v,num d] (base s++r))=some { v:=.bool (run (walkE step run d x s)),st:=⟨[],base (walkE step run d x s)++r⟩ }:=by
 refine Ex.ind fun x ih d s r hrun hd hx hr=>?_
 have hp:=depth_pos x
 have hrx:∀ s,calm (base s++(r++[⟨0,.box x.cells⟩])):=fun s=>by
  rw [← List.append_assoc]
  exact calm_app (hr s) (by simp)
 have hy:=hY.yld s d x (r++[⟨0,.box x.cells⟩]) hrun (by omega) hx hrx
 have hloop:=loop202 hY x d hd hx r hr ih (step s d x) (l + 3 + (r.length + 1)) rfl
 rw [walkE_eq]
 generalize hs1:step s d x=s1 at *
 have hl0:(base s++r:H).length=l + 3 + r.length:=by simp [hY.len]
 have g8:=app_low r (hY.g8 s)
 have gx:=app0 (h:=base s++r) hl0 ⟨0,.box x.cells⟩
 have e0:∀ s,base s++(r++[⟨0,.box x.cells⟩])=(base s++r)++[⟨0,.box x.cells⟩]:=fun s=>by simp
 have hcut:∀ s z,cutK (l + 3 + r.length) (base s++(r++z))=base s++r:=fun s z=>by
  have:=cutK_app (hr s) z
  rw [List.append_assoc] at this
  rw [show (base s++r:H).length=l + 3 + r.length by simp [hY.len]] at this
  exact this
 rw [e0] at hy
 rw [ev_call,pg185]
 have g8':=app_low [⟨0,.box x.cells⟩] g8
 rw [List.append_assoc] at g8' gx
 rw [← e0] at hy
 by_cases hb:run s1=true
 ·rw [hb] at hy
  simp [-cutK,ir185,hY.len,g8',hy,ev_loop]
  generalize hq:ev pg (.code (.going _ L185_0) _)=o
  obtain ⟨q,rfl,hl,z,hh,hQ⟩:∃ q,o=some q∧Q202 step run base x d r s1 q:=by
   rw [← hq]
   refine hloop _ ⟨s1,hb,rfl,⟨?_,?_,?_,?_,?_,?_,?_⟩,rfl⟩
   all_goals simp [noNil]
  rcases hQ with ⟨hx,hw⟩ | ⟨hx,h6,hw⟩
  ·simp [-cutK,hx,hh,hl,hw,hb,hcut]
  ·simp [-cutK,hx,hh,h6,hw,hb,hcut]
 ·have hb':run s1=false:=by simpa using hb
  rw [hb'] at hy
  simp [-cutK,ir185,hY.len,g8',hy,hb',hcut]
end
section
variable {S:Type} {step:S→Nat→Ex→S} {run:S→Bool}
abbrev two202 (l:Nat):H:=[⟨0,.box [.yld l]⟩,⟨0,.box [.fn 185 [] [.bptr (l + 1) 0,.bptr (l + 2) 0]]⟩]
theorem ev184 {l:Nat} {b7:S→H} (hY:Yld step run l (fun s=>b7 s++two202 l)) (hlen:∀ s,(b7 s).length=l + 1) (hc:∀ s,calm (b7 s)) (x:Ex) (k:Nat) (hk:∀ s,(b7 s)[k]?=some ⟨0,.box x.cells⟩) (hx:x.light=true) (s:S) (hrun:run s=true):ev pg (.call (.fn 184 [] [.bptr k 0]) [.yld l] (b7 s))=some { v:=.tup [],st:=⟨[],b7 (walkE step run 1 x s)⟩ }:=by
 obtain ⟨h1,h2⟩:=light_nodes hx
 have hcb:∀ s,calm ((b7 s++two202 l)++[]):=fun s=>by
  rw [List.append_nil]
  exact calm_app (hc s) (by simp [hlen]; omega)
 have hv:=ev185 hY x 1 s [] hrun (by omega) h1 hcb
 simp only [List.append_nil] at hv
 generalize walkE step run 1 x s=s2 at *
 have t1:=set1 (hlen s)
 have gk:∀ z,(b7 s++z)[k]?=some ⟨0,.box x.cells⟩:=fun z=>app_low z (hk s)
 have hcut:∀ z,cutK (l + 1) (b7 s2++z)=b7 s2:=fun z=>by
  have:=cutK_app (hc s2) z
  rwa [hlen] at this
 rw [ev_call,pg184]
 simp at hv
 simp [-cutK,ir184,hlen,t1,gk,hv,hcut]
end
abbrev sl162 (x:Ex):List V:=[x.v,.bptr 0 0,.bptr 1 0,.bptr 2 0,.bptr 3 0,.bptr 4 0,.bptr 5 0,.undef,x.v,.fn 184 [] [.bptr 6 0],.undef,.undef,.undef,.undef,.undef,.undef,.undef,.undef,.undef,.undef,.undef,.undef,.undef,.undef,.undef]
def m7 (x:Ex) (s:Nat × Nat):H:=[⟨0,.box x.cells⟩,⟨0,.box [num 0]⟩,⟨0,.box [num 0]⟩,⟨0,.box [.bool false]⟩,⟨0,.box [num s.1]⟩,⟨0,.box [num s.2]⟩,⟨0,.box x.cells⟩,⟨0,.loop (sl162 x) [10,11] L167_0 L167_1 (if s.1≤256 then none else some .ret)⟩]
def step162 (s:Nat × Nat) (d:Nat) (_:Ex):Nat × Nat:=(s.1 + 1,max s.2 d)
def run162 (s:Nat × Nat):Bool:=decide (s.1≤256)
theorem calm_loop {h:H} {k g:Nat} {sl:List V} {ps:List Nat} {a b:C} {p:Option X} (hc:calm h) (hk:h[k]?=some ⟨g,.loop sl ps a b p⟩) (p':Option X):calm (h.set k ⟨g,.loop sl ps a b p'⟩):=by
 rw [calm_iff] at hc ⊢
 have h1:=hc _ (List.mem_of_getElem? hk)
 intro o ho
 rw [List.length_set]
 rcases List.mem_or_eq_of_mem_set ho with ho | rfl
 ·exact hc o ho
 ·simp only [scrubO,Ob.mk.injEq,K.loop.injEq,and_true,true_and] at h1 ⊢
  exact h1
theorem yld162 (x:Ex):Yld step162 run162 7 (fun s=>m7 x s++two202 7):=by
 refine ⟨fun s=>rfl,fun s=>rfl,fun s=>rfl,fun s d y r hrun hd hy hr=>?_⟩
 have h256:s.1≤256:=by simpa [run162] using hrun
 have e1:ev pg (.code L167_0 ⟨setMany (sl162 x) [10,11] [num d,y.v],(m7 x s++two202 7)++r⟩)=some { st:=⟨setS (setS (setS (sl162 x) 10 (num d)) 11 y.v) 7 (num d),(m7 x s++two202 7)++r⟩ }:=by
  simp [L167_0]
 have wa:=wrap_id (n:=(s.1:Int) + 1) (by omega) (by omega)
 have hd':¬ ((16:Int) < (d:Int)):=by omega
 have e2:∃ S2,ev pg (.code L167_1 ⟨setS (setS (setS (sl162 x) 10 (num d)) 11 y.v) 7 (num d),((m7 x s++two202 7)++r).set 7 ⟨0,.loop (sl162 x) [10,11] L167_0 L167_1 (some .normal)⟩⟩)=some { x:=if s.1 + 1≤256 then .normal else .ret,st:=⟨S2,((m7 x (step162 s d y)++two202 7)++r).set 7 ⟨0,.loop (sl162 x) [10,11] L167_0 L167_1 (some .normal)⟩⟩ }:=by
  by_cases h:s.1 + 1≤256
  ·have h':¬ ((256:Int) < (s.1:Int) + 1):=by omega
   simp [m7,L167_1,step162,wa,h,h',hd']
   split <;> omega
  ·have h':(256:Int) < (s.1:Int) + 1:=by omega
   simp [m7,L167_1,step162,wa,h,h']
   split <;> omega
 obtain ⟨S2,e2⟩:=e2
 have hr2:=hr (step162 s d y)
 have hcl:=calm_loop hr2 (k:=7) (g:=0) (sl:=sl162 x) (ps:=[10,11]) (a:=L167_0) (b:=L167_1) (p:=if (step162 s d y).1≤256 then none else some .ret) rfl (some .normal)
 have hck:=calm_cutK hcl
 rw [List.length_set] at hck
 have hlen:((m7 x s++two202 7)++r:H).length=((m7 x (step162 s d y)++two202 7)++r:H).length:=rfl
 rw [← hlen] at hck
 have hy2:=ev_yld2 (P:=pg) (l:=7) (args:=[num d,y.v]) (h:=(m7 x s++two202 7)++r) (g:=0) (sl:=sl162 x) (ps:=[10,11]) (a:=L167_0) (b:=L167_1) (by simp [m7,h256]) rfl e1 (g1:=0) (sl1:=sl162 x) (ps1:=[10,11]) (a1:=L167_0) (b1:=L167_1) (by simp [m7,h256]) e2 (g2:=0) (sl2:=sl162 x) (ps2:=[10,11]) (as2:=L167_0) (bd2:=L167_1) (p2:=some .normal) (by
  rw [hck]; rfl)
 rw [hck] at hy2
 rw [hy2]
 by_cases h:s.1 + 1≤256
 ·simp [run162,step162,h,m7]
 ·simp [run162,step162,h,m7]
theorem walk162:∀ (x:Ex) (d:Nat) (s:Nat × Nat),s.1 + x.nodes≤256→walkE step162 run162 d x s=(s.1 + x.nodes,max s.2 (d + x.depth - 1)):=by
 refine Ex.ind fun x ih d s hs=>?_
 have hn:=nodes_eq x
 have hd:=depth_eq x
 have hl:∀ (l:List Ex) (s:Nat × Nat),(∀ y ∈ l,y ∈ x.args)→d≤s.2→s.1 + nodesL l≤256→walkLs step162 run162 (d + 1) l s=(s.1 + nodesL l,max s.2 (d + depthL l)):=by
  intro l
  induction l with
  | nil =>
   intro s _ hds h
   have e:max s.2 d=s.2:=by omega
   simp [walkLs,nodesL,depthL,e]
  | cons y l ihl =>
   intro s hsub hds h
   rw [nodesL] at h
   rw [walkLs,ih y (hsub y (by simp)) (d + 1) s (by omega)]
   have hrun:run162 (s.1 + y.nodes,max s.2 (d + 1 + y.depth - 1))=true:=by simp [run162]; omega
   rw [if_pos hrun,ihl _ (fun z hz=>hsub z (by simp [hz])) (by simp only; omega) (by simp only; omega)]
   have hyp:=depth_pos y
   rw [nodesL,depthL]
   simp only [Prod.mk.injEq]
   omega
 rw [walkE_eq]
 have hrun:run162 (step162 s d x)=true:=by
  have:=nodes_pos x
  simp [run162,step162]; omega
 rw [if_pos hrun,hl x.args _ (fun y hy=>hy) (by simp only [step162]; omega) (by simp only [step162]; omega),hn,hd]
 simp only [step162,Prod.mk.injEq]
 omega
theorem ev168 (x:Ex) (h:H):ev pg (.call (.fn 168 [] []) [x.v] h)=some { v:=.fn 184 [] [.bptr h.length 0],st:=⟨[],h++[⟨0,.box x.cells⟩]⟩ }:=by
 rw [ev_call,pg168]
 simp [ir168]
theorem ev167 (x:Ex) (hx:x.light=true):ev pg (.call (.fn 167 [] []) [x.v] [])=some { v:=.tup [num x.nodes,num x.depth,.bool true],st:=⟨[],[]⟩ }:=by
 obtain ⟨h1,h2⟩:=light_nodes hx
 have hd:=depth_pos x
 have h187:=ev168 x
 have h201:=ev184 (yld162 x) (fun _=>rfl) (fun s=>by simp [calm,m7,scrubO]) x 6 (fun _=>rfl) hx (0,0) rfl
 rw [walk162 x 1 (0,0) (by simp only; omega)] at h201
 have hm:max 0 (1 + x.depth - 1)=x.depth:=by omega
 rw [hm] at h201
 simp [m7,h1] at h201
 rw [ev_call,pg167]
 simp [ir167,h187,ev_range,h201,ev_draw1,exT,chkOk]
abbrev sl157 (x:Ex) (n:Int):List V:=[x.v,num n,.bptr 0 0,.bptr 1 0,.bptr 2 0,num x.nodes,num x.depth,.bool true,.undef,.undef,.undef,num n,.bool false,.bool false,num n,.bool false,.bool false,.tup [num x.nodes,num x.depth,.bool true],x.v,.tup [num x.nodes,num x.depth,.bool true],num x.nodes,num x.depth,.bool true,.bool true,.bool false,x.v,.fn 184 [] [.bptr 3 0],.undef,.undef,.undef,.undef,.undef,.undef,.undef,.undef]
def m4 (x:Ex) (n:Int) (e:Int):H:=[⟨0,.box x.cells⟩,⟨0,.box [num n]⟩,⟨0,.box [num e]⟩,⟨0,.box x.cells⟩,⟨0,.loop (sl157 x n) [27,28] L152_0 L152_1 (if e=0 then none else some .ret)⟩]
def step157 (n:Int) (_:Int) (_:Nat) (y:Ex):Int:=nodeE y.op y.idx y.args.length n
def run157 (e:Int):Bool:=decide (e=0)
abbrev twoY (y:Ex):H:=[⟨0,.arr 0 []⟩,⟨0,.box y.cells⟩]
theorem yld157 (x:Ex) (n:Int) (hn:0≤n∧n≤256):Yld (step157 n) run157 4 (fun e=>m4 x n e++two202 4):=by
 refine ⟨fun s=>rfl,fun s=>rfl,fun s=>rfl,fun s d y r hrun hd hy hr=>?_⟩
 obtain rfl:s=0:=by simpa [run157] using hrun
 have h188:=ev169 y n hy hn
 have e1:∃ S1,getS S1 3=.bptr 1 0∧getS S1 4=.bptr 2 0∧getS S1 9=.bptr (7 + r.length + 1) 0∧S1.length=35∧ev pg (.code L152_0 ⟨setMany (sl157 x n) [27,28] [num d,y.v],(m4 x n 0++two202 4)++r⟩)=some { st:=⟨S1,((m4 x n 0++two202 4)++r)++[⟨0,.arr 0 []⟩,⟨0,.box y.cells⟩]⟩ }:=by
  have hl0:((m4 x n 0++two202 4)++r:H).length=7 + r.length:=by simp [m4]; omega
  generalize (m4 x n 0++two202 4)++r=G at *
  have t1:=set1 hl0
  simp [L152_0,hl0,t1]
  exact ⟨_,rfl,rfl,rfl,rfl,rfl⟩
 obtain ⟨S1,g3,g4,g9,hl,e1⟩:=e1
 have e2:∃ S2,ev pg (.code L152_1 ⟨S1,(((m4 x n 0++two202 4)++r)++twoY y).set 4 ⟨0,.loop (sl157 x n) [27,28] L152_0 L152_1 (some .normal)⟩⟩)=some { x:=if nodeE y.op y.idx y.args.length n=0 then .normal else .ret,st:=⟨S2,(((m4 x n (nodeE y.op y.idx y.args.length n)++two202 4)++r).set 4 ⟨0,.loop (sl157 x n) [27,28] L152_0 L152_1 (some .normal)⟩)++twoY y⟩ }:=by
  generalize nodeE y.op y.idx y.args.length n=e at *
  have k1:(((m4 x n 0++two202 4)++r).set 4 ⟨0,.loop (sl157 x n) [27,28] L152_0 L152_1 (some .normal)⟩)[1]?=some ⟨0,.box [num n]⟩:=rfl
  have k2:(((m4 x n 0++two202 4)++r).set 4 ⟨0,.loop (sl157 x n) [27,28] L152_0 L152_1 (some .normal)⟩)[2]?=some ⟨0,.box [num 0]⟩:=rfl
  have hl0:(((m4 x n 0++two202 4)++r).set 4 ⟨0,.loop (sl157 x n) [27,28] L152_0 L152_1 (some .normal)⟩:H).length=7 + r.length:=by simp [m4]; omega
  have s2:∀ z,((((m4 x n 0++two202 4)++r).set 4 ⟨0,.loop (sl157 x n) [27,28] L152_0 L152_1 (some .normal)⟩)++z).set 2 ⟨0,.box [num e]⟩=((m4 x n e++two202 4)++r).set 4 ⟨0,.loop (sl157 x n) [27,28] L152_0 L152_1 (some .normal)⟩++z:=fun z=>rfl
  have h0:e=0→((m4 x n 0++two202 4)++r).set 4 ⟨0,.loop (sl157 x n) [27,28] L152_0 L152_1 (some .normal)⟩=((m4 x n e++two202 4)++r).set 4 ⟨0,.loop (sl157 x n) [27,28] L152_0 L152_1 (some .normal)⟩:=fun h=>by rw [h]
  rw [List.set_append_left _ _ (by simp [m4])]
  generalize ((m4 x n 0++two202 4)++r).set 4 ⟨0,.loop (sl157 x n) [27,28] L152_0 L152_1 (some .normal)⟩=G at *
  generalize ((m4 x n e++two202 4)++r).set 4 ⟨0,.loop (sl157 x n) [27,28] L152_0 L152_1 (some .normal)⟩=G2 at *
  have a1:=app1 hl0
  have k1':=fun z=>app_low z k1
  have k2':=fun z=>app_low z k2
  rw [getS_expand hl]
  by_cases he:e=0
  ·rw [h0 he] at *
   simp [-getElem?_pos,L152_1,List.range,List.range.loop,g3,g4,g9,a1,k1',h188,he]
  ·simp [-getElem?_pos,L152_1,List.range,List.range.loop,g3,g4,g9,a1,k1',k2',s2,h188,he]
 obtain ⟨S2,e2⟩:=e2
 have hr2:=hr (step157 n 0 d y)
 have hcl:=calm_loop hr2 (k:=4) (g:=0) (sl:=sl157 x n) (ps:=[27,28]) (a:=L152_0) (b:=L152_1) (p:=if step157 n 0 d y=0 then none else some .ret) rfl (some .normal)
 have hck:=cutK_app hcl [⟨0,.arr 0 []⟩,⟨0,.box y.cells⟩]
 rw [List.length_set] at hck
 have hlen:((m4 x n 0++two202 4)++r:H).length=((m4 x n (step157 n 0 d y)++two202 4)++r:H).length:=rfl
 rw [← hlen] at hck
 have hy2:=ev_yld2 (P:=pg) (l:=4) (args:=[num d,y.v]) (h:=(m4 x n 0++two202 4)++r) (g:=0) (sl:=sl157 x n) (ps:=[27,28]) (a:=L152_0) (b:=L152_1) (by simp [m4]) rfl e1 (g1:=0) (sl1:=sl157 x n) (ps1:=[27,28]) (a1:=L152_0) (b1:=L152_1) (by simp [m4]) e2 (g2:=0) (sl2:=sl157 x n) (ps2:=[27,28]) (as2:=L152_0) (bd2:=L152_1) (p2:=some .normal) (by
  show (cutK _ (((m4 x n (step157 n 0 d y)++two202 4)++r).set 4 _++_))[4]?=_
  rw [hck]; rfl)
 rw [hy2]
 show some ({ v:=_,st:=⟨[],(cutK _ (((m4 x n (step157 n 0 d y)++two202 4)++r).set 4 _++_)).set 4 _⟩ }:Am.R)=_
 rw [hck]
 by_cases h:nodeE y.op y.idx y.args.length n=0
 ·simp [run157,step157,h,m4]
 ·simp [run157,step157,h,m4]
theorem walk157 (n:Int):∀ (x:Ex) (d:Nat) (e:Int),walkE (step157 n) run157 d x e=x.err n:=by
 refine Ex.ind fun x ih d e=>?_
 rw [walkE_eq,err_eq]
 have hl:∀ (l:List Ex),(∀ y ∈ l,y ∈ x.args)→walkLs (step157 n) run157 (d + 1) l 0=errL n l:=by
  intro l
  induction l with
  | nil=>intro _; simp [walkLs,errL]
  | cons y l ihl =>
   intro hsub
   rw [walkLs,ih y (hsub y (by simp)),errL]
   by_cases h:y.err n=0
   ·rw [h,if_pos (by rfl),if_pos rfl]
    exact ihl fun z hz=>hsub z (by simp [hz])
   ·rw [if_neg (by simp [run157,h]),if_neg h]
 show (if run157 (nodeE x.op x.idx x.args.length n)=true then walkLs (step157 n) run157 (d + 1) x.args (nodeE x.op x.idx x.args.length n) else nodeE x.op x.idx x.args.length n)=_
 by_cases h:nodeE x.op x.idx x.args.length n=0
 ·rw [h,if_pos rfl]
  show walkLs (step157 n) run157 (d + 1) x.args 0=_
  exact hl x.args fun y hy=>hy
 ·rw [if_neg (by simp [run157,h]),if_neg h]
theorem ev152 (x:Ex) (n:Int) (hx:x.light=true):ev pg (.call (.fn 152 [] []) [x.v,num n] [])=some { v:=num (x.check n),st:=⟨[],[]⟩ }:=by
 have h162:=ev167 x hx
 have h187:=ev168 x
 rw [ev_call,pg152]
 by_cases h1:n < 0
 ·simp [ir152,Ex.check,h1]
 ·by_cases h2:256 < n
  ·simp [ir152,Ex.check,h1,h2]
  ·have h201:=ev184 (yld157 x n ⟨by omega,by omega⟩) (fun _=>rfl) (fun s=>by simp [calm,m4,scrubO]) x 3 (fun _=>rfl) hx 0 rfl
   rw [walk157] at h201
   have hc:x.check n=x.err n:=by simp [Ex.check,h1,h2,hx]
   rw [hc]
   generalize x.err n=e at *
   by_cases he:e=0
   ·subst he
    simp [m4] at h201
    simp [ir152,h1,h2,h162,h187,ev_range,h201]
   ·simp [m4,he] at h201
    simp [ir152,h1,h2,h162,h187,ev_range,h201]
end Go.Proofs.YtbhkplbciajikaaGreat
