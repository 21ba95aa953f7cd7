/- The signals come to rest, by settle. The signals come to rest, by settle: the functions. -/
import Derived.Test.YtlhciedghbmjjaaGreatSo0
import Derived.Test.YtlhciedghbmjjaaGreatSo15
import Derived.KernelRfl
set_option linter.all false
namespace Go.Proofs.YtlhciedghbmjjaaGreat
open Go Go.Am Go.Proofs
set_option maxRecDepth 100000
theorem sameT_comm (a b:Ste):sameT a b=sameT b a:=by
 rw [Bool.eq_iff_iff,sameT_iff,sameT_iff]
 exact ⟨Eq.symm,Eq.symm⟩
theorem badS_in {c:Ct} {u:Ste} (h:Rdy c u):∀ x ∈ badS c u,0≤x∧x < (countN c c.act.toNat:Nat):=by
 intro x hx
 unfold badS at hx
 obtain ⟨j,h1,_,rfl⟩:=(selL_mem _ _ _ _).1 hx
 have:=h.shp.e
 have:=h.shp.i
 have:=h.mid.act
 unfold countN firstS
 omega
def T123 (k:Nat) (a:Ste × List Int × Nat × Nat):Tm:=[some (.bptr 15 0),none,some (num 0),some (.sl 16 0 0 0 0),some (num 0),some (.sl 17 a.2.2.1 a.2.2.2 0 a.2.1.length),some (num k)]++List.replicate 21 none
abbrev h123 (c:Ct) (s:Ste) (F:Nat) (a:Ste × List Int × Nat × Nat):H:=hM c s a.1 F++hQ a.2.2.1 a.2.2.2 a.2.1
def T123r (k g m:Nat):Tm:=[none,none,some (num k),some (.sl 17 g 1 0 m),some (num 0)]++List.replicate 23 none
inductive Out123 (c:Ct) (s:Ste) (F:Nat) (Z:Option (Ste × List Int)) (r:R):Prop where
 | no (hz:Z=none) (a:Ste × List Int × Nat × Nat) (hw:a.2.2.2=1∨a.2.2.2=0) (he:EndsAs (.exit 0) (T123 65 a) (h123 c s F a) r)
 | yes (t:Ste) (m:List Int) (hz:Z=some (t,m)) (k g:Nat) (rows:List (List V)) (hr:rows.take m.length=m.map nrow) (hl:m.length≤rows.length) (he:EndsAs .ret (T123r k g m.length) (hM c s t F++[o0,⟨g,.arr 1 rows⟩]) r)
structure G123 (c:Ct) (F:Nat) (Z:Option (Ste × List Int)) (k:Nat) (a:Ste × List Int × Nat × Nat):Prop where
 go:settleGo c (countN c c.act.toNat) (65 - k) a.1 a.2.1=Z
 rdy:Rdy c a.1
 first:firstS a.1=F
 len:a.2.1.length≤k * 128
 b:∀ x ∈ a.2.1,0≤x∧x < (countN c c.act.toNat:Nat)
 w:a.2.2.2=1∨a.2.2.2=0
theorem Rdy.once {c:Ct} {s:Ste} (h:Rdy c s):Rdy c (onceV c s):=⟨h.few,onceV_right h.st⟩
theorem calm_hM (c:Ct) (s u:Ste) (F g:Nat) (rows:List (List V)):calm (hM c s u F++[o0,⟨g,.arr 1 rows⟩]):=by
 unfold calm
 simp
set_option maxHeartbeats 2000000 in
theorem lp123 {c:Ct} {u:Ste} (s:Ste) (hu:Rdy c u) {st:St} (h0:At (T123 0 (u,[],0,0)) (h123 c s (firstS u) (u,[],0,0)) st):∃ r,ev pg (.code (.going 18 L161_0) st)=some r∧Out123 c s (firstS u) (settleV c u) r:=by
 generalize hR:settleV c u=Z
 unfold settleV at hR
 generalize hF:firstS u=F at h0 ⊢
 refine loop_at 65 T123 (fun _ a=>h123 c s F a) (G123 c F Z) _ ?_ ?_ (u,[],0,0) ⟨hR,hu,hF,by simp,by simp,.inr rfl⟩ h0
 ·rintro k ⟨t,l,g,w⟩ f hf hk hG
  have hgo:=hG.go
  have hrd:=hG.rdy
  have hfi:=hG.first
  have hlen:=hG.len
  have hb:=hG.b
  have hw:w=1∨w=0:=hG.w
  simp only at hgo hrd hfi hlen hb
  have hk':(k:Int)≤64:=by omega
  have wk:=wrap_id (n:=(k:Int) + 1) (by omega) (by omega)
  have e150:=ev182 s hrd g w l
  rw [hfi] at e150
  have hbl:(badS c t).length≤128:=by
   have:=selL_len (badF c (linesV (gated c t))) (firstS t) c.signals.length
   have:=hrd.mid.sig
   unfold badS
   omega
  have hbb:=badS_in hrd
  have hfi':firstS (onceV c t)=F:=by rw [← hfi]; rfl
  rw [show 65 - k=(64 - k) + 1 by omega,settleGo] at hgo
  have hone:=hrd.once
  rw [sameT_comm] at hgo
  have hq:(l++badS c t).length * 8≤140737488355328:=by simp; omega
  have hbd:∀ x ∈ l++badS c t,0≤x∧x < (countN c c.act.toNat:Nat):=fun x hx=>(List.mem_append.1 hx).elim (hb x) (hbb x)
  have hll:(l++badS c t).length≤(k + 1) * 128:=by simp; omega
  generalize badS c t=B at *
  have hq1:(l.length + B.length) * 8≤140737488355328:=by simpa using hq
  by_cases hst:sameT t (onceV c t)=true
  ·rw [if_pos hst] at hgo
   have hto:onceV c t=t:=(sameT_iff.1 hst).symm
   rw [hst,hto] at e150
   simp at e150
   have e33:=ev73 (h:=hM c s t F++[o0,⟨g + 1,.arr 1 ((l++B).map nrow)⟩]) (i:=17) (g:=g + 1) (l:=l++B) rfl (calm_hM c s t F (g + 1) _) (by omega)
   obtain ⟨l',hp,hsr,e33⟩:=e33
   have e36:=ev74 (h:=hM c s t F++[o0,⟨g + 1,.arr 1 (l'.map nrow)⟩]) (i:=17) (g:=g + 1) (l:=l') rfl (calm_hM c s t F (g + 1) _) (by have:=hp.length_eq; omega)
   obtain ⟨rows,hr1,hr2,e36⟩:=e36
   have hcn:compactL l'=norm (countN c c.act.toNat) (l++B):=compact_norm hsr (fun x=>hp.mem_iff) hbd
   have hle:(compactL l').length≤rows.length:=by
    have:=congrArg List.length hr2
    simp at this
    omega
   have hpl:=hp.length_eq
   rw [hcn] at hr2 e36 hle
   rw [hpl] at e36
   subst hgo
   generalize norm (countN c c.act.toNat) (l++B)=M at *
   simp at e33 e36
   unfold T123 h123
   rcases hw with rfl | rfl <;> simp [L161_0,hk',e150,hq1,e33,e36,hf.ne]
   all_goals exact .yes t M rfl k (g + 1) rows hr2 hle (by simp [T123r,hf.ne])
  ·have hsf:sameT t (onceV c t)=false:=by simpa using hst
   rw [if_neg hst] at hgo
   rw [hsf] at e150
   simp at e150
   have hG':G123 c F Z (k + 1) (onceV c t,l++B,g + 1,1):=⟨by rw [← hgo,show 65 - (k + 1)=64 - k by omega],hone,hfi',hll,hbd,.inl rfl⟩
   unfold T123 h123
   generalize onceV c t=v at *
   rcases hw with rfl | rfl <;> simp [L161_0,hk',e150,hq1,wk,hf.ne]
   all_goals exact ⟨_,_,_,_,hG',by simp⟩
 ·rintro ⟨t,l,g,w⟩ f hf hG
  have hgo:=hG.go
  simp only [Nat.sub_self,settleGo] at hgo
  subst hgo
  have hw:w=1∨w=0:=hG.w
  unfold T123 h123
  rcases hw with rfl | rfl <;> simp [L161_0,hf.ne]
  ·exact .no rfl (t,l,g,1) (.inl rfl) (by simp [T123,hf.ne])
  ·exact .no rfl (t,l,g,0) (.inr rfl) (by simp [T123,hf.ne])
theorem take_if {rows:List (List V)} {W:List (List V)} {n:Nat} (h:rows.take n=W):(if n=rows.length then rows else rows.take n)=W:=by
 split
 ·rename_i e
  rw [e,List.take_length] at h
  exact h
 ·exact h
theorem ev161_some {c:Ct} {u:Ste} (s:Ste) (hu:Rdy c u) {t:Ste} {m:List Int} (hz:settleV c u=some (t,m)):∃ k:Nat,ev pg (.call (.fn 161 [] []) [.bptr 15 0] (hM c s u (firstS u)))=some { v:=.tup [num k,.sl 16 0 1 0 m.length,num 0],st:=⟨[],hM c s t (firstS u)++[⟨0,.arr 1 (m.map nrow)⟩]⟩ }:=by
 have hl:=@lp123 c u s hu
 rw [hz] at hl
 generalize firstS u=F at *
 have key:∃ r,∃ k:Nat,ev pg (.call (.fn 161 [] []) [.bptr 15 0] (hM c s u F))=some r∧r={ v:=.tup [num k,.sl 16 0 1 0 m.length,num 0],st:=⟨[],hM c s t F++[⟨0,.arr 1 (m.map nrow)⟩]⟩ }:=by
  rw [ev_call,pg161]
  simp [ir161,ev_loop]
  generalize hr:ev pg (.code (.going _ L161_0) _)=o
  obtain ⟨r,rfl,hO⟩:∃ r,o=some r∧_:=by rw [← hr]; exact hl (by simp [T123])
  clear hr
  cases hO with
  | no hz'=>cases hz'
  | yes t' m' hz' k g rows hr hle he =>
   obtain ⟨rfl,rfl⟩:=Prod.mk.inj (Option.some.inj hz')
   obtain ⟨f,hf,rfl⟩:=he
   have hif:=take_if hr
   simp [T123r,moveVs,moveV,move1,hle,hif]
   exact ⟨k,rfl⟩
 obtain ⟨r,k,e,rfl⟩:=key
 exact ⟨k,e⟩
theorem ev161_none {c:Ct} {u:Ste} (s:Ste) (hu:Rdy c u) (hz:settleV c u=none):∃ t,ev pg (.call (.fn 161 [] []) [.bptr 15 0] (hM c s u (firstS u)))=some { v:=.tup [num 0,.nils,num 21],st:=⟨[],hM c s t (firstS u)⟩ }:=by
 have hl:=@lp123 c u s hu
 rw [hz] at hl
 generalize firstS u=F at *
 have key:∃ r t,ev pg (.call (.fn 161 [] []) [.bptr 15 0] (hM c s u F))=some r∧r={ v:=.tup [num 0,.nils,num 21],st:=⟨[],hM c s t F⟩ }:=by
  rw [ev_call,pg161]
  simp [ir161,ev_loop]
  generalize hr:ev pg (.code (.going _ L161_0) _)=o
  obtain ⟨r,rfl,hO⟩:∃ r,o=some r∧_:=by rw [← hr]; exact hl (by simp [T123])
  clear hr
  cases hO with
  | yes t' m' hz'=>cases hz'
  | no hz' a hw he =>
   obtain ⟨t,l,g,w⟩:=a
   obtain ⟨f,hf,rfl⟩:=he
   have hww:w=1∨w=0:=hw
   rcases hww with rfl | rfl <;> simp [T123,moveVs,moveV,move1] <;> exact ⟨t,by simp⟩
 obtain ⟨r,t,e,rfl⟩:=key
 exact ⟨t,e⟩
abbrev h122 (c:Ct) (s:Ste):H:=[⟨0,.box c.cells⟩,⟨0,.box s.cells⟩,o0,o0,o0,o0,o0,⟨0,.box (nil5 2)⟩]
theorem ev160 {c:Ct} {s:Ste} (h:Rdy c s):ev pg (.call (.fn 160 [] []) [c.v,s.v] (h122 c s))=some { v:=.tup [.bptr 15 0,num 0],st:=⟨[],hM c s s (firstS s)⟩ }:=by
 have e45:=ev88 c s h.few h.small
 rw [h.st] at e45
 have e149:=ev181 s h.small
 have hF:=firstS_eq h.mid h.shp
 have hact:=h.mid.act
 have hhi:=h.mid.hi
 have hinp:=h.mid.inp
 rw [hF]
 unfold firstN
 generalize c.act.toNat=A at *
 have w1:IntKind.i64.wrap (2 * c.act)=2 * (A:Int):=by rw [hact]; exact wrap_id (by omega) (by omega)
 have w2:=wrap_id (n:=2 * (A:Int) + (c.inputs.length:Int)) (by omega) (by omega)
 rw [ev_call,pg160]
 simp [ev_draw1,exT,chkOk,ir160,e45,e149,w1,w2]
theorem ev127_some {c:Ct} {s:Ste} (h:Rdy c s) {t:Ste} {m:List Int} (hz:settleV c s=some (t,m)):ev pg (.call (.fn 127 [] []) [c.v,s.v] [])=some { v:=.tup [fiveV t,.sl 5 0 1 0 m.length,num 0],st:=⟨[],five t++[⟨0,.arr 1 (m.map nrow)⟩]⟩ }:=by
 have e122:=ev160 h
 obtain ⟨k,e123⟩:=ev161_some s h hz
 generalize firstS s=F at *
 rw [ev_call,pg127]
 simp at e123
 simp [ir127,e122,e123,moveVs,moveV,moveL,move1]
theorem ev127_none {c:Ct} {s:Ste} (h:Rdy c s) (hz:settleV c s=none):ev pg (.call (.fn 127 [] []) [c.v,s.v] [])=some { v:=.tup [.agg (nil5 0),.nils,num 21],st:=⟨[],[o0,o0,o0,o0,o0]⟩ }:=by
 have e122:=ev160 h
 obtain ⟨t,e123⟩:=ev161_none s h hz
 generalize firstS s=F at *
 rw [ev_call,pg127]
 simp at e123
 simp [ir127,e122,e123,moveVs,moveV,moveL,move1]
end Go.Proofs.YtlhciedghbmjjaaGreat
