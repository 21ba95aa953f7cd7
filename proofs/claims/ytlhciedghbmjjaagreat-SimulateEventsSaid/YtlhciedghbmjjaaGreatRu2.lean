/- Gates are computed, by settle; the rules. Behind events states are right; the first state. A round of the plant, by the reference: all that is needed of a right state of a small control. -/
import Derived.Test.YtlhciedghbmjjaaGreatLn1
import Derived.KernelRfl
import Derived.Test.YtlhciedghbmjjaaGreatSt2
import Derived.Test.YtlhciedghbmjjaaGreatSv1
set_option linter.all false
namespace Go.Proofs.YtlhciedghbmjjaaGreat
open Go Go.Am Go.Proofs
set_option maxRecDepth 100000
abbrev h162 (c:Ct) (s u b:Ste) (gq wq:Nat) (L:List Int) (k:Nat):H:=h163 c s (stK c u k) b (firstS u) gq wq L++[⟨0,.arr 1 ((gatesTo c (firstS u) k (linesV u)).map brow)⟩]
def T162 (c:Ct) (N k:Nat):Tm:=[some (.bptr 15 0),none,some (.sl 29 0 1 0 N),none,none,none,none,none,none,none,none,none,some (.imm (c.signals.map Sg.row)),some (num c.signals.length),some (num k)]++List.replicate 29 none
set_option maxHeartbeats 2000000 in
theorem lp162 (c:Ct) (s u b:Ste) (gq wq:Nat) (L:List Int) (hs:u.small) (hS:Shp c u) (hn:c.signals.length≤128) (hF:firstS u≤10000) (hok:∀ x ∈ c.signals,x.on.nodes≤256∧x.on.err (linesV u).length=0) {st:St} (h0:At (T162 c (linesV u).length 0) (h162 c s u b gq wq L 0) st):∃ r,ev pg (.code (.going 30 L190_0) st)=some r∧EndsAs (.exit 0) (T162 c (linesV u).length c.signals.length) (h162 c s u b gq wq L c.signals.length) r:=by
 refine loop_pic c.signals.length (T162 c (linesV u).length) (h162 c s u b gq wq L) _ ?_ ?_ h0
 ·intro k f hf hk
  have hk':(k:Int) < c.signals.length:=by omega
  have wk:=wrap_id (n:=(k:Int) + 1) (by omega) (by omega)
  have hsc:=stK_succ c u k hk
  obtain ⟨g1,g2⟩:=hok _ (List.getElem_mem hk)
  have hLl:(linesV (stK c u k)).length=(linesV u).length:=by rw [lines_stK,gatesTo_len]
  have h165:=ev193 (linesV (stK c u k)) c.signals[k].on g1 (by rw [hLl]; exact g2)
  have hvl:=stK_len c u k
  have hkv:k < u.values.length:=by rw [hS.v]; exact hk
  have hgt:gatesTo c (firstS u) (k + 1) (linesV u)=if c.signals[k].kind=0 then (gatesTo c (firstS u) k (linesV u)).set (firstS u + k) (c.signals[k].on.holds (linesV (stK c u k))) else gatesTo c (firstS u) k (linesV u):=by
   rw [gatesTo,gateStep,List.getElem?_eq_getElem hk,lines_stK]
  have hst:∀ j,stK c u j=⟨u.ends,u.valves,u.inputs,(stK c u j).values,u.timers⟩:=fun j=>rfl
  have hlt:(gatesTo c (firstS u) k (linesV u)).length=(linesV u).length:=gatesTo_len _ _ _ _
  have hFk:firstS u + k < (linesV u).length:=by
   rw [linesV_len]; unfold firstS; omega
  rw [lines_stK] at h165 hgt
  unfold h162
  rw [hst (k + 1),hst k,hsc,hgt,lines_stK]
  unfold T162
  generalize gatesTo c (firstS u) k (linesV u)=G at *
  generalize hv:c.signals[k].on.holds G=v at *
  generalize (stK c u k).values=W at *
  generalize firstS u=F at *
  have hkW:k < W.length:=by omega
  have wF:=wrap_id (n:=(F:Int) + k) (by omega) (by omega)
  have pF:(0:Int)≤(F:Int) + k:=by omega
  have tF:((F:Int) + k).toNat=F + k:=by omega
  generalize (linesV u).length=N at *
  by_cases h0:c.signals[k].kind=0
  ·have hFk':F + k < G.length:=by omega
   simp [ev_draw1,exT,chkOk,L190_0,hk,hk',wk,h0,hlt.symm,h165,hkW,hkv,hFk',hvl,wF,pF,tF,hf.ne]
  ·have h0b:(c.signals[k].kind == 0)=false:=by simpa using h0
   simp [L190_0,hk,hk',wk,h0,h0b,hf.ne]
 ·intro f hf
  unfold T162 h162
  simp [L190_0,hf.ne]
set_option maxHeartbeats 1000000 in
theorem ev190 (c:Ct) (s u b:Ste) (gq wq:Nat) (L:List Int) (hs:u.small) (hS:Shp c u) (hn:c.signals.length≤128) (hF:firstS u≤10000) (h1:1≤u.ends.length) (hok:∀ x ∈ c.signals,x.on.nodes≤256∧x.on.err (linesV u).length=0):ev pg (.call (.fn 190 [] []) [.bptr 15 0] (h163 c s u b (firstS u) gq wq L))=some { v:=.tup [],st:=⟨[],h163 c s (gated c u) b (firstS u) gq wq L⟩ }:=by
 have hl:=@lp162 c s u b gq wq L hs hS hn hF hok
 have e163:=ev191 c s u b (firstS u) gq wq L hs h1
 have hst:∀ j,stK c u j=⟨u.ends,u.valves,u.inputs,(stK c u j).values,u.timers⟩:=fun j=>rfl
 have hvl:=stK_len c u c.signals.length
 unfold h162 at hl
 rw [stK_zero,stK_all,show gatesTo c (firstS u) 0 (linesV u)=linesV u from rfl] at hl
 rw [stK_all] at hvl
 have hg:gated c u=⟨u.ends,u.valves,u.inputs,(gated c u).values,u.timers⟩:=rfl
 rw [hg] at hl ⊢
 generalize (gated c u).values=W at *
 generalize gatesTo c (firstS u) c.signals.length (linesV u)=G at *
 generalize firstS u=F at *
 generalize linesV u=LL at *
 simp at e163
 rw [ev_call,pg190]
 simp [ir190,e163,ev_loop]
 generalize hr:ev pg (.code (.going _ L190_0) _)=o
 obtain ⟨r,rfl,f,hf,rfl⟩:∃ r,o=some r∧_:=by rw [← hr]; exact hl (by simp [T162])
 clear hr
 simp [T162]
abbrev chg (v:Bool) (t:Int) (b:Bool):V:=.agg [.bool v,num t,.bool b]
theorem ev197 (v:Bool) (t:Int) (b on off:Bool):ev pg (.call (.fn 197 [] []) [chg v t b,.bool on,.bool off] [])=some { v:=chg v t b,st:=⟨[],[]⟩ }:=by
 rw [ev_call,pg197]
 simp [ir197]
theorem ev198 (v:Bool) (t:Int) (b on off:Bool):ev pg (.call (.fn 198 [] []) [chg v t b,.bool on,.bool off] [])=some { v:=chg (if on != off then on else v) t (on && off),st:=⟨[],[]⟩ }:=by
 rw [ev_call,pg198]
 cases on <;> cases off <;> simp [ir198]
theorem ev199 (v:Bool) (t:Int) (b on off:Bool):ev pg (.call (.fn 199 [] []) [chg v t b,.bool on,.bool off] [])=some { v:=if on=true then chg v (if t=0 then 1 else t) b else chg false 0 false,st:=⟨[],[]⟩ }:=by
 rw [ev_call,pg199]
 cases on with
 | false=>simp [ir199]
 | true =>
  by_cases h:t=0
  ·simp [ir199,h]
  ·have hb:(t == 0)=false:=by simpa using h
   simp [ir199,h,hb]
abbrev rulesV:V:=.agg [.fn 197 [] [],.fn 198 [] [],.fn 199 [] []]
theorem ev192:ev pg (.call (.fn 192 [] []) [] [])=some { v:=rulesV,st:=⟨[],[]⟩ }:=by
 rw [ev_call,pg192]
 simp [ir192]
theorem pend_timer {s:Ste} {i:Nat} (h:pendB s 1 i=true):∃ hi:i < s.timers.length,s.timers[i]=1:=by
 unfold pendB at h
 rw [if_neg (by omega)] at h
 by_cases hi:i < s.timers.length
 ·rw [List.getElem?_eq_getElem hi] at h
  simp at h
  exact ⟨hi,h⟩
 ·rw [List.getElem?_eq_none (by omega)] at h
  simp at h
theorem happ_right {c:Ct} {s:Ste} {x:Evn} (hs:stE c s=0) (hk:¬ (x.kind < 0∨2 < x.kind)) (hm:mayV s x=true):stE c (happV s x)=0:=by
 obtain ⟨hc,hS,h1,h2,h3⟩:=stE_iff.1 hs
 unfold mayV at hm
 split at hm
 ·cases hm
 ·unfold happV
  by_cases hk0:x.kind=0
  ·rw [if_pos hk0]
   refine stE_iff.2 ⟨hc,⟨by simp only [List.length_set]; exact hS.e,hS.w,hS.i,hS.v,hS.t⟩,any_bad.2 fun y hy=>?_,h2,h3⟩
   rcases List.mem_or_eq_of_mem_set hy with h | h
   ·exact any_bad.1 h1 y h
   ·rw [h]; split <;> omega
  ·rw [if_neg hk0]
   by_cases hk1:x.kind=1
   ·rw [if_pos hk1]
    rw [if_neg (by omega),hk1] at hm
    obtain ⟨hi,ht⟩:=pend_timer hm
    generalize x.idx.toNat=n at *
    have hnc:n < c.signals.length:=by rw [← hS.t]; exact hi
    have hS':Shp c ⟨s.ends,s.valves,s.inputs,s.values.set n true,s.timers.set n 2⟩:=⟨hS.e,hS.w,hS.i,by simp only [List.length_set]; exact hS.v,by simp only [List.length_set]; exact hS.t⟩
    refine stE_iff.2 ⟨hc,hS',h1,any_bad.2 fun y hy=>?_,fun k hk=>?_⟩
    ·rcases List.mem_or_eq_of_mem_set hy with h | h
     ·exact any_bad.1 h2 y h
     ·rw [h]; omega
    ·simp only [List.length_set] at hk
     have hkc:k < c.signals.length:=by rw [← hS.t]; exact hk
     rw [tm_get hS' hkc]
     simp only [List.getElem_set]
     by_cases hkn:n=k
     ·subst hkn
      have hq:=h3 n hi
      rw [tm_get hS hkc,ht] at hq
      simp only [if_true]
      have hkind:c.signals[n].kind=2:=by
       simp [tmB] at hq
       exact hq.1
      rw [hkind]
      rfl
     ·rw [if_neg hkn,if_neg hkn,← tm_get hS hkc]
      exact h3 k hk
   ·rw [if_neg hk1]
    exact stE_iff.2 ⟨hc,⟨hS.e,hS.w,by simp only [List.length_set]; exact hS.i,hS.v,hS.t⟩,h1,h2,h3⟩
theorem afterV_right {c:Ct} {s:Ste} {x:Evn} (hs:stE c s=0) (h:(afterV c s x).2.2=0):stE c (afterV c s x).1=0:=by
 unfold afterV at h ⊢
 split at h
 ·cases h
 ·rename_i h1
  rw [if_neg h1]
  split at h
  ·rename_i h2
   rw [if_pos h2]
   unfold restE at h ⊢
   cases e:restV c (happV s x) with
   | none=>rw [e] at h; cases h
   | some y =>
    simp only
    exact restV_right (happ_right hs h1 h2) (show restV c (happV s x)=some (y.1,y.2) from e)
  ·cases h
def firstG (c:Ct):Ste:=⟨List.replicate c.act.toNat 0,List.replicate c.act.toNat false,List.replicate c.inputs.length false,c.signals.map Sg.init,List.replicate c.signals.length 0⟩
def beginV (c:Ct):Ste:=gated c (firstG c)
theorem firstG_right {c:Ct} (hc:c.check=0):stE c (firstG c)=0:=by
 have hact:1≤c.act:=by
  unfold Ct.check at hc
  split at hc
  ·cases hc
  ·omega
 have hS:Shp c (firstG c):=⟨by unfold firstG; rw [List.length_replicate]; omega,by unfold firstG; rw [List.length_replicate]; omega,by unfold firstG; rw [List.length_replicate],by unfold firstG; rw [List.length_map],by unfold firstG; rw [List.length_replicate]⟩
 refine stE_iff.2 ⟨hc,hS,any_bad.2 fun y hy=>?_,any_bad.2 fun y hy=>?_,fun k hk=>?_⟩
 ·rw [(List.mem_replicate.1 hy).2]; omega
 ·rw [(List.mem_replicate.1 hy).2]; omega
 ·have hkc:k < c.signals.length:=by rw [← hS.t]; exact hk
  rw [tm_get hS hkc]
  unfold firstG
  simp only [List.getElem_map,List.getElem_replicate]
  have hz:=sig_zero hc k _ (List.getElem?_eq_getElem hkc)
  generalize c.signals[k]=x at *
  by_cases h2:x.kind=2
  ·have hi:x.init=false:=by
    cases hb:x.init with
    | false=>rfl
    | true =>
     exfalso
     unfold sigE at hz
     split at hz
     ·split at hz
      ·cases hz
      ·split at hz
       ·split at hz
        ·rename_i h4; exact h4.2 hz
        ·split at hz
         ·cases hz
         ·split at hz
          ·cases hz
          ·rw [if_pos (.inl ⟨by omega,.inr hb⟩)] at hz
           cases hz
       ·rename_i h4; exact h4 hz
     ·rename_i h4; exact h4 hz
   rw [h2,hi]
   rfl
  ·simp [tmB,h2]
theorem beginV_right {c:Ct} (hc:c.check=0):stE c (beginV c)=0:=gated_right (firstG_right hc)
structure Rdy (c:Ct) (s:Ste):Prop where
 few:c.small=true
 st:stE c s=0
theorem Rdy.chk {c:Ct} {s:Ste} (h:Rdy c s):c.check=0:=(stE_zero h.st).1
theorem Rdy.mid {c:Ct} {s:Ste} (h:Rdy c s):Mid c c.act.toNat:=mid_check h.chk h.few
theorem Rdy.shp {c:Ct} {s:Ste} (h:Rdy c s):Shp c s:=(stE_zero h.st).2
theorem Rdy.small {c:Ct} {s:Ste} (h:Rdy c s):s.small:=by
 obtain ⟨h1,h2,h3,h4,h5⟩:=h.shp
 have a1:=h.mid.hi
 have a2:=h.mid.inp
 have a3:=h.mid.sig
 have a4:=h.mid.act
 exact ⟨by omega,by omega,by omega,by omega,by omega⟩
theorem Rdy.sig {c:Ct} {s:Ste} (h:Rdy c s):∀ x ∈ c.signals,SigOk (linesV s).length x:=by
 intro x hx
 rw [shp_lines h.shp]
 have:=sg_ok h.chk h.few hx
 exact ⟨⟨this.non,this.on⟩,fun _=>⟨this.noff,this.off⟩⟩
theorem Rdy.pil {c:Ct} {s:Ste} (h:Rdy c s):Pil c c.act.toNat (linesV s).length:=by
 rw [shp_lines h.shp]
 have:=rgt_check h.chk h.few
 exact ⟨this.plus,this.minus,any_bad.1 this.pp,any_bad.1 this.mm⟩
theorem Rdy.settle {c:Ct} {s t:Ste} {m:List Int} (h:Rdy c s) (hz:settleV c s=some (t,m)):Rdy c t:=⟨h.few,settleV_right h.st hz⟩
theorem Rdy.round {c:Ct} {s t:Ste} {m:List Int} (h:Rdy c s) (hz:roundV c s=some (t,m)):Rdy c t:=⟨h.few,roundV_right h.st hz⟩
structure Lin (N:Nat) (l:List Int):Prop where
 asc:Asc l
 b:∀ x ∈ l,0≤x∧x < (N:Int)
theorem Lin.norm (N:Nat) (l:List Int):Lin N (norm N l):=⟨norm_asc N l,fun _ hx=>(mem_norm.1 hx).2⟩
theorem Lin.self {N:Nat} {l:List Int} (h:Lin N l):Proofs.YtlhciedghbmjjaaGreat.norm N l=l:=norm_self h.asc h.b
theorem norm_le (N:Nat) (l:List Int):(norm N l).length≤N:=selL_len _ _ _
theorem Lin.len {N:Nat} {l:List Int} (h:Lin N l):l.length≤N:=by
 have:=norm_le N l
 rwa [h.self] at this
theorem Lin.mono {M N:Nat} {l:List Int} (h:Lin M l) (hMN:M≤N):Lin N l:=⟨h.asc,fun x hx=>by have:=h.b x hx; omega⟩
theorem Lin.nil (N:Nat):Lin N []:=⟨List.Pairwise.nil,by simp⟩
theorem settleGo_lin {c:Ct} {N:Nat}:∀ {d:Nat} {s:Ste} {l:List Int} {t:Ste} {m:List Int},settleGo c N d s l=some (t,m)→Lin N m
 | 0,_,_,_,_,h=>by cases h
 | d + 1,s,l,t,m,h=>by
  rw [settleGo] at h
  split at h
  ·cases h; exact Lin.norm _ _
  ·exact settleGo_lin h
theorem settleV_lin {c:Ct} {s t:Ste} {m:List Int} (h:settleV c s=some (t,m)):Lin (countN c c.act.toNat) m:=settleGo_lin h
theorem confS_lin (c:Ct) (s:Ste):Lin (allN c) (confS c s):=by
 refine ⟨?_,fun x hx=>?_⟩
 ·unfold confS selL Asc
  rw [List.pairwise_map]
  refine List.Pairwise.imp ?_ ((List.pairwise_lt_range (n:=c.act.toNat)).filter _)
  intro a b h
  omega
 ·unfold confS at hx
  obtain ⟨j,h1,_,rfl⟩:=(selL_mem _ _ _ _).1 hx
  unfold allN
  omega
theorem allN_le {c:Ct} (h:Mid c c.act.toNat):allN c≤200:=by
 have:=h.hi
 have:=h.inp
 have:=h.sig
 unfold allN countN
 omega
end Go.Proofs.YtlhciedghbmjjaaGreat
