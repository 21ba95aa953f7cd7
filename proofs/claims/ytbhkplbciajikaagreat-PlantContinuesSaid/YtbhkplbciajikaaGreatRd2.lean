/- The signals come to rest, by settle. The signals come to rest, by settle: the functions. The value of a line, by plant. A round of the plant, by the program. -/
import Derived.Test.YtbhkplbciajikaaGreatSo0
import Derived.Test.YtbhkplbciajikaaGreatSo15
import Derived.KernelRfl
set_option linter.all false
namespace Go.Proofs.YtbhkplbciajikaaGreat
open Go Go.Am Go.Proofs
set_option maxRecDepth 100000
theorem sameT_comm (a b:Ste):sameT a b=sameT b a:=by
 rw [Bool.eq_iff_iff,sameT_iff,sameT_iff]
 exact ⟨Eq.symm,Eq.symm⟩
theorem badS_in {c:Ct} {u:Ste} (h:Rdy c u):∀ x ∈ badS c u,0≤x∧x < (countN c c.act.toNat:Nat):=by
 intro x hx
 unfold badS at hx
 obtain ⟨j,h1,_,rfl⟩:=(selL_mem _ _ _ _).1 hx
 have:=h.shp.e
 have:=h.shp.i
 have:=h.mid.act
 unfold countN firstS
 omega
def T123 (k:Nat) (a:Ste × List Int × Nat × Nat):Tm:=[some (.bptr 15 0),none,some (num 0),some (.sl 16 0 0 0 0),some (num 0),some (.sl 17 a.2.2.1 a.2.2.2 0 a.2.1.length),some (num k)]++List.replicate 21 none
abbrev h123 (c:Ct) (s:Ste) (F:Nat) (a:Ste × List Int × Nat × Nat):H:=hM c s a.1 F++hQ a.2.2.1 a.2.2.2 a.2.1
def T123r (k g m:Nat):Tm:=[none,none,some (num k),some (.sl 17 g 1 0 m),some (num 0)]++List.replicate 23 none
inductive Out123 (c:Ct) (s:Ste) (F:Nat) (Z:Option (Ste × List Int)) (r:R):Prop where
 | no (hz:Z=none) (a:Ste × List Int × Nat × Nat) (hw:a.2.2.2=1∨a.2.2.2=0) (he:EndsAs (.exit 0) (T123 65 a) (h123 c s F a) r)
 | yes (t:Ste) (m:List Int) (hz:Z=some (t,m)) (k g:Nat) (rows:List (List V)) (hr:rows.take m.length=m.map nrow) (hl:m.length≤rows.length) (he:EndsAs .ret (T123r k g m.length) (hM c s t F++[o0,⟨g,.arr 1 rows⟩]) r)
structure G123 (c:Ct) (F:Nat) (Z:Option (Ste × List Int)) (k:Nat) (a:Ste × List Int × Nat × Nat):Prop where
 go:settleGo c (countN c c.act.toNat) (65 - k) a.1 a.2.1=Z
 rdy:Rdy c a.1
 first:firstS a.1=F
 len:a.2.1.length≤k * 128
 b:∀ x ∈ a.2.1,0≤x∧x < (countN c c.act.toNat:Nat)
 w:a.2.2.2=1∨a.2.2.2=0
theorem Rdy.once {c:Ct} {s:Ste} (h:Rdy c s):Rdy c (onceV c s):=⟨h.few,onceV_right h.st⟩
theorem calm_hM (c:Ct) (s u:Ste) (F g:Nat) (rows:List (List V)):calm (hM c s u F++[o0,⟨g,.arr 1 rows⟩]):=by
 unfold calm
 simp
set_option maxHeartbeats 2000000 in
theorem lp123 {c:Ct} {u:Ste} (s:Ste) (hu:Rdy c u) {st:St} (h0:At (T123 0 (u,[],0,0)) (h123 c s (firstS u) (u,[],0,0)) st):∃ r,ev pg (.code (.going 18 L123_0) st)=some r∧Out123 c s (firstS u) (settleV c u) r:=by
 generalize hR:settleV c u=Z
 unfold settleV at hR
 generalize hF:firstS u=F at h0 ⊢
 refine loop_at 65 T123 (fun _ a=>h123 c s F a) (G123 c F Z) _ ?_ ?_ (u,[],0,0) ⟨hR,hu,hF,by simp,by simp,.inr rfl⟩ h0
 ·rintro k ⟨t,l,g,w⟩ f hf hk hG
  have hgo:=hG.go
  have hrd:=hG.rdy
  have hfi:=hG.first
  have hlen:=hG.len
  have hb:=hG.b
  have hw:w=1∨w=0:=hG.w
  simp only at hgo hrd hfi hlen hb
  have hk':(k:Int)≤64:=by omega
  have wk:=wrap_id (n:=(k:Int) + 1) (by omega) (by omega)
  have e150:=ev150 s hrd g w l
  rw [hfi] at e150
  have hbl:(badS c t).length≤128:=by
   have:=selL_len (badF c (linesV (gated c t))) (firstS t) c.signals.length
   have:=hrd.mid.sig
   unfold badS
   omega
  have hbb:=badS_in hrd
  have hfi':firstS (onceV c t)=F:=by rw [← hfi]; rfl
  rw [show 65 - k=(64 - k) + 1 by omega,settleGo] at hgo
  have hone:=hrd.once
  rw [sameT_comm] at hgo
  have hq:(l++badS c t).length * 8≤140737488355328:=by simp; omega
  have hbd:∀ x ∈ l++badS c t,0≤x∧x < (countN c c.act.toNat:Nat):=fun x hx=>(List.mem_append.1 hx).elim (hb x) (hbb x)
  have hll:(l++badS c t).length≤(k + 1) * 128:=by simp; omega
  generalize badS c t=B at *
  have hq1:(l.length + B.length) * 8≤140737488355328:=by simpa using hq
  by_cases hst:sameT t (onceV c t)=true
  ·rw [if_pos hst] at hgo
   have hto:onceV c t=t:=(sameT_iff.1 hst).symm
   rw [hst,hto] at e150
   simp at e150
   have e33:=ev33 (h:=hM c s t F++[o0,⟨g + 1,.arr 1 ((l++B).map nrow)⟩]) (i:=17) (g:=g + 1) (l:=l++B) rfl (calm_hM c s t F (g + 1) _) (by omega)
   obtain ⟨l',hp,hsr,e33⟩:=e33
   have e36:=ev36 (h:=hM c s t F++[o0,⟨g + 1,.arr 1 (l'.map nrow)⟩]) (i:=17) (g:=g + 1) (l:=l') rfl (calm_hM c s t F (g + 1) _) (by have:=hp.length_eq; omega)
   obtain ⟨rows,hr1,hr2,e36⟩:=e36
   have hcn:compactL l'=norm (countN c c.act.toNat) (l++B):=compact_norm hsr (fun x=>hp.mem_iff) hbd
   have hle:(compactL l').length≤rows.length:=by
    have:=congrArg List.length hr2
    simp at this
    omega
   have hpl:=hp.length_eq
   rw [hcn] at hr2 e36 hle
   rw [hpl] at e36
   subst hgo
   generalize norm (countN c c.act.toNat) (l++B)=M at *
   simp at e33 e36
   unfold T123 h123
   rcases hw with rfl | rfl <;> simp [L123_0,hk',e150,hq1,e33,e36,hf.ne]
   all_goals exact .yes t M rfl k (g + 1) rows hr2 hle (by simp [T123r,hf.ne])
  ·have hsf:sameT t (onceV c t)=false:=by simpa using hst
   rw [if_neg hst] at hgo
   rw [hsf] at e150
   simp at e150
   have hG':G123 c F Z (k + 1) (onceV c t,l++B,g + 1,1):=⟨by rw [← hgo,show 65 - (k + 1)=64 - k by omega],hone,hfi',hll,hbd,.inl rfl⟩
   unfold T123 h123
   generalize onceV c t=v at *
   rcases hw with rfl | rfl <;> simp [L123_0,hk',e150,hq1,wk,hf.ne]
   all_goals exact ⟨_,_,_,_,hG',by simp⟩
 ·rintro ⟨t,l,g,w⟩ f hf hG
  have hgo:=hG.go
  simp only [Nat.sub_self,settleGo] at hgo
  subst hgo
  have hw:w=1∨w=0:=hG.w
  unfold T123 h123
  rcases hw with rfl | rfl <;> simp [L123_0,hf.ne]
  ·exact .no rfl (t,l,g,1) (.inl rfl) (by simp [T123,hf.ne])
  ·exact .no rfl (t,l,g,0) (.inr rfl) (by simp [T123,hf.ne])
theorem take_if {rows:List (List V)} {W:List (List V)} {n:Nat} (h:rows.take n=W):(if n=rows.length then rows else rows.take n)=W:=by
 split
 ·rename_i e
  rw [e,List.take_length] at h
  exact h
 ·exact h
theorem ev123_some {c:Ct} {u:Ste} (s:Ste) (hu:Rdy c u) {t:Ste} {m:List Int} (hz:settleV c u=some (t,m)):∃ k:Nat,ev pg (.call (.fn 123 [] []) [.bptr 15 0] (hM c s u (firstS u)))=some { v:=.tup [num k,.sl 16 0 1 0 m.length,num 0],st:=⟨[],hM c s t (firstS u)++[⟨0,.arr 1 (m.map nrow)⟩]⟩ }:=by
 have hl:=@lp123 c u s hu
 rw [hz] at hl
 generalize firstS u=F at *
 have key:∃ r,∃ k:Nat,ev pg (.call (.fn 123 [] []) [.bptr 15 0] (hM c s u F))=some r∧r={ v:=.tup [num k,.sl 16 0 1 0 m.length,num 0],st:=⟨[],hM c s t F++[⟨0,.arr 1 (m.map nrow)⟩]⟩ }:=by
  rw [ev_call,pg123]
  simp [ir123,ev_loop]
  generalize hr:ev pg (.code (.going _ L123_0) _)=o
  obtain ⟨r,rfl,hO⟩:∃ r,o=some r∧_:=by rw [← hr]; exact hl (by simp [T123])
  clear hr
  cases hO with
  | no hz'=>cases hz'
  | yes t' m' hz' k g rows hr hle he =>
   obtain ⟨rfl,rfl⟩:=Prod.mk.inj (Option.some.inj hz')
   obtain ⟨f,hf,rfl⟩:=he
   have hif:=take_if hr
   simp [T123r,moveVs,moveV,move1,hle,hif]
   exact ⟨k,rfl⟩
 obtain ⟨r,k,e,rfl⟩:=key
 exact ⟨k,e⟩
theorem ev123_none {c:Ct} {u:Ste} (s:Ste) (hu:Rdy c u) (hz:settleV c u=none):∃ t,ev pg (.call (.fn 123 [] []) [.bptr 15 0] (hM c s u (firstS u)))=some { v:=.tup [num 0,.nils,num 21],st:=⟨[],hM c s t (firstS u)⟩ }:=by
 have hl:=@lp123 c u s hu
 rw [hz] at hl
 generalize firstS u=F at *
 have key:∃ r t,ev pg (.call (.fn 123 [] []) [.bptr 15 0] (hM c s u F))=some r∧r={ v:=.tup [num 0,.nils,num 21],st:=⟨[],hM c s t F⟩ }:=by
  rw [ev_call,pg123]
  simp [ir123,ev_loop]
  generalize hr:ev pg (.code (.going _ L123_0) _)=o
  obtain ⟨r,rfl,hO⟩:∃ r,o=some r∧_:=by rw [← hr]; exact hl (by simp [T123])
  clear hr
  cases hO with
  | yes t' m' hz'=>cases hz'
  | no hz' a hw he =>
   obtain ⟨t,l,g,w⟩:=a
   obtain ⟨f,hf,rfl⟩:=he
   have hww:w=1∨w=0:=hw
   rcases hww with rfl | rfl <;> simp [T123,moveVs,moveV,move1] <;> exact ⟨t,by simp⟩
 obtain ⟨r,t,e,rfl⟩:=key
 exact ⟨t,e⟩
abbrev h122 (c:Ct) (s:Ste):H:=[⟨0,.box c.cells⟩,⟨0,.box s.cells⟩,o0,o0,o0,o0,o0,⟨0,.box (nil5 2)⟩]
theorem ev122 {c:Ct} {s:Ste} (h:Rdy c s):ev pg (.call (.fn 122 [] []) [c.v,s.v] (h122 c s))=some { v:=.tup [.bptr 15 0,num 0],st:=⟨[],hM c s s (firstS s)⟩ }:=by
 have e45:=ev45 c s h.few h.small
 rw [h.st] at e45
 have e149:=ev149 s h.small
 have hF:=firstS_eq h.mid h.shp
 have hact:=h.mid.act
 have hhi:=h.mid.hi
 have hinp:=h.mid.inp
 rw [hF]
 unfold firstN
 generalize c.act.toNat=A at *
 have w1:IntKind.i64.wrap (2 * c.act)=2 * (A:Int):=by rw [hact]; exact wrap_id (by omega) (by omega)
 have w2:=wrap_id (n:=2 * (A:Int) + (c.inputs.length:Int)) (by omega) (by omega)
 rw [ev_call,pg122]
 simp [ev_draw1,exT,chkOk,ir122,e45,e149,w1,w2]
theorem ev81_some {c:Ct} {s:Ste} (h:Rdy c s) {t:Ste} {m:List Int} (hz:settleV c s=some (t,m)):ev pg (.call (.fn 81 [] []) [c.v,s.v] [])=some { v:=.tup [fiveV t,.sl 5 0 1 0 m.length,num 0],st:=⟨[],five t++[⟨0,.arr 1 (m.map nrow)⟩]⟩ }:=by
 have e122:=ev122 h
 obtain ⟨k,e123⟩:=ev123_some s h hz
 generalize firstS s=F at *
 rw [ev_call,pg81]
 simp at e123
 simp [ir81,e122,e123,moveVs,moveV,moveL,move1]
theorem ev81_none {c:Ct} {s:Ste} (h:Rdy c s) (hz:settleV c s=none):ev pg (.call (.fn 81 [] []) [c.v,s.v] [])=some { v:=.tup [.agg (nil5 0),.nils,num 21],st:=⟨[],[o0,o0,o0,o0,o0]⟩ }:=by
 have e122:=ev122 h
 obtain ⟨t,e123⟩:=ev123_none s h hz
 generalize firstS s=F at *
 rw [ev_call,pg81]
 simp at e123
 simp [ir81,e122,e123,moveVs,moveV,moveL,move1]
theorem endsB_at:∀ (l:List Int) (k:Nat),(endsB l)[2 * k]?=l[k]?.map (· == 0)∧(endsB l)[2 * k + 1]?=l[k]?.map (· == 2)
 | [],k=>by simp [endsB]
 | e :: l,0=>by simp [endsB]
 | e :: l,k + 1=>by
  have ih:=endsB_at l k
  rw [show 2 * (k + 1)=2 * k + 1 + 1 by omega]
  simp only [endsB,List.getElem?_cons_succ]
  exact ih
theorem lines_low (s:Ste) {k:Nat} (hk:k < s.ends.length):(linesV s)[2 * k]?=some (s.ends[k] == 0)∧(linesV s)[2 * k + 1]?=some (s.ends[k] == 2):=by
 obtain ⟨h1,h2⟩:=endsB_at s.ends k
 have hl:=endsB_len s.ends
 unfold linesV
 rw [List.append_assoc,List.getElem?_append_left (by omega),List.getElem?_append_left (by omega),h1,h2,List.getElem?_eq_getElem hk]
 exact ⟨rfl,rfl⟩
theorem lines_inp (s:Ste) {k:Nat} (hk:k < s.inputs.length):(linesV s)[2 * s.ends.length + k]?=some s.inputs[k]:=by
 have hl:=endsB_len s.ends
 unfold linesV
 rw [List.append_assoc,List.getElem?_append_right (by omega),hl,Nat.add_sub_cancel_left,List.getElem?_append_left hk,List.getElem?_eq_getElem hk]
theorem lines_val (s:Ste) {k:Nat} (hk:k < s.values.length):(linesV s)[2 * s.ends.length + s.inputs.length + k]?=some s.values[k]:=by
 have hl:=endsB_len s.ends
 unfold linesV
 rw [List.getElem?_append_right (by rw [List.length_append]; omega),List.length_append,hl,Nat.add_sub_cancel_left,List.getElem?_eq_getElem hk]
theorem ev82 {c:Ct} {s:Ste} (h:Rdy c s) (x:Int) (h0:0≤x) (h1:x < (linesV s).length):ev pg (.call (.fn 82 [] []) [c.v,s.v,num x] [])=some { v:=.bool (((linesV s)[x.toNat]?).getD false),st:=⟨[],[]⟩ }:=by
 have hS:=h.shp
 have hm:=h.mid
 have hact:=hm.act
 have hhi:=hm.hi
 have hinp:=hm.inp
 have hsig:=hm.sig
 have he:=hS.e
 have hin:=hS.i
 have hv:=hS.v
 have hlen:=linesV_len s
 generalize c.act.toNat=A at *
 have hea:s.ends.length=A:=by omega
 obtain ⟨n,rfl⟩:∃ n:Nat,x=n:=⟨x.toNat,by omega⟩
 have wA:IntKind.i64.wrap (2 * c.act)=2 * (A:Int):=by rw [hact]; exact wrap_id (by omega) (by omega)
 have w1:IntKind.i64.wrap ((n:Int) - 2 * (A:Int))=(n:Int) - 2 * A:=wrap_id (by omega) (by omega)
 have w2:IntKind.i64.wrap ((n:Int) - 2 * (A:Int) - s.inputs.length)=(n:Int) - 2 * A - s.inputs.length:=wrap_id (by omega) (by omega)
 rw [ev_call,pg82]
 by_cases c1:n < 2 * A
 ·have c1':(n:Int) < 2 * (A:Int):=by omega
  rcases Nat.mod_two_eq_zero_or_one n with hp | hp
  ·obtain ⟨k,rfl⟩:∃ k,n=2 * k:=⟨n / 2,by omega⟩
   have hk:k < s.ends.length:=by omega
   obtain ⟨l1,l2⟩:=lines_low s hk
   have hq:Int.tdiv (2 * (k:Int)) 2=(k:Int):=by
    rw [show (2 * (k:Int))=((2 * k:Nat):Int) by omega,show (2:Int)=((2:Nat):Int) by rfl,← Int.ofNat_tdiv]
    congr 1
    omega
   have hr:Int.tmod (2 * (k:Int)) 2=0:=by
    rw [show (2 * (k:Int))=((2 * k:Nat):Int) by omega,show (2:Int)=((2:Nat):Int) by rfl,← Int.ofNat_tmod]
    omega
   have wk:=wrap_id (n:=(k:Int)) (by omega) (by omega)
   have c1'':2 * (k:Int) < 2 * (A:Int):=by omega
   have hkA:k < A:=by omega
   have tn:(2 * (k:Int)).toNat=2 * k:=by omega
   simp [ev_draw1,exT,chkOk,ir82,wA,c1'',hkA,hq,hr,wk,hk,l1,tn]
  ·obtain ⟨k,rfl⟩:∃ k,n=2 * k + 1:=⟨n / 2,by omega⟩
   have hk:k < s.ends.length:=by omega
   obtain ⟨l1,l2⟩:=lines_low s hk
   have hq:Int.tdiv (2 * (k:Int) + 1) 2=(k:Int):=by
    rw [show (2 * (k:Int) + 1)=((2 * k + 1:Nat):Int) by omega,show (2:Int)=((2:Nat):Int) by rfl,← Int.ofNat_tdiv]
    congr 1
    omega
   have hr:Int.tmod (2 * (k:Int) + 1) 2=1:=by
    rw [show (2 * (k:Int) + 1)=((2 * k + 1:Nat):Int) by omega,show (2:Int)=((2:Nat):Int) by rfl,← Int.ofNat_tmod]
    omega
   have wk:=wrap_id (n:=(k:Int)) (by omega) (by omega)
   have c1'':2 * (k:Int) + 1 < 2 * (A:Int):=by omega
   have tn:(2 * (k:Int) + 1).toNat=2 * k + 1:=by omega
   simp [ev_draw1,exT,chkOk,ir82,wA,c1'',hq,hr,wk,hk,l2,tn]
 ·have c1':¬ (n:Int) < 2 * (A:Int):=by omega
  obtain ⟨k,rfl⟩:∃ k,n=2 * A + k:=⟨n - 2 * A,by omega⟩
  have e1:((2 * A + k:Nat):Int) - 2 * A=(k:Int):=by omega
  rw [e1] at w1 w2
  have c2:¬ 2 * (A:Int) + (k:Int) < 2 * (A:Int):=by omega
  have w1':IntKind.i64.wrap (2 * (A:Int) + (k:Int) - 2 * (A:Int))=(k:Int):=by
   rw [wrap_id (by omega) (by omega)]; omega
  have tn:(2 * (A:Int) + (k:Int)).toNat=2 * A + k:=by omega
  by_cases c3:k < s.inputs.length
  ·have c3':(k:Int) < s.inputs.length:=by omega
   have l1:=lines_inp s c3
   rw [hea] at l1
   simp [ir82,wA,c2,w1',c3,c3',l1,tn]
  ·have c3':¬ (k:Int) < s.inputs.length:=by omega
   obtain ⟨q,rfl⟩:∃ q,k=s.inputs.length + q:=⟨k - s.inputs.length,by omega⟩
   have hq:q < s.values.length:=by omega
   have l1:=lines_val s hq
   rw [hea] at l1
   have w3:IntKind.i64.wrap ((s.inputs.length:Int) + (q:Int) - (s.inputs.length:Int))=(q:Int):=by
    rw [wrap_id (by omega) (by omega)]; omega
   have w4:IntKind.i64.wrap (2 * (A:Int) + ((s.inputs.length:Int) + (q:Int)) - 2 * (A:Int))=(s.inputs.length:Int) + q:=by
    rw [wrap_id (by omega) (by omega)]; omega
   have c4:¬ (s.inputs.length:Int) + (q:Int) < s.inputs.length:=by omega
   have c5:¬ 2 * (A:Int) + ((s.inputs.length:Int) + (q:Int)) < 2 * (A:Int):=by omega
   have tn2:(2 * (A:Int) + ((s.inputs.length:Int) + (q:Int))).toNat=2 * A + s.inputs.length + q:=by omega
   simp [ir82,wA,c5,w4,c4,w3,hq,tn2,l1]
theorem goesE_in {v:Bool} {e:Int} (h0:0≤e) (h4:e < 4):goesE v e=if v=true then (if e ≠ 2∧e ≠ 1 then 1 else e) else (if e ≠ 0∧e ≠ 3 then 3 else e):=by
 unfold goesE
 have:e=0∨e=1∨e=2∨e=3:=by omega
 rcases this with rfl | rfl | rfl | rfl <;> cases v <;> rfl
abbrev vA (c:Ct) (t:Ste):List Bool:=t.valves.mapIdx (valvF c (linesV t))
abbrev eA (c:Ct) (t:Ste):List Int:=List.zipWith goesE (vA c t) t.ends
abbrev h46 (c:Ct) (s t:Ste) (m:List Int) (A k:Nat) (g:Nat):H:=[⟨0,.box c.cells⟩,⟨0,.box s.cells⟩,o0,o0,o0,o0,o0,⟨0,.box (nil5 2)⟩]++ar5 t++[⟨g,.arr 1 ((m++cfL c (linesV t) A k).map nrow)⟩,o0,o0,o0,o0,o0,⟨0,.box (sl5 8 t)⟩,⟨0,.arr 1 ((mix (eA c t) t.ends k).map nrow)⟩,⟨0,.arr 1 ((mix (vA c t) t.valves k).map brow)⟩,⟨0,.arr 1 (t.inputs.map brow)⟩,⟨0,.arr 1 (t.values.map brow)⟩,⟨0,.arr 1 (t.timers.map nrow)⟩,o0,o0,o0,o0,o0,⟨0,.box (sl5 20 t)⟩,o0]
def T46 (c:Ct) (t:Ste) (m:List Int) (A N k:Nat) (g:Nat):Tm:=[none,none,some (.bptr 0 0),some (.bptr 1 0),some (.bptr 7 0),some (.sl 31 0 0 0 0),some (num 0),some (.bptr 19 0),some (.sl 13 g 1 0 (m++cfL c (linesV t) A k).length),none,some (.bptr 30 0),some (num N)]++List.replicate 30 none++[some (num A),some (num k)]++List.replicate 70 none
set_option maxHeartbeats 4000000 in
theorem lp46 {c:Ct} {t:Ste} (s:Ste) (ht:Rdy c t) (m:List Int) (hm:m.length≤4096) {A:Nat} (hA:c.act.toNat=A) {st:St} (g0:Nat) (h0:At (T46 c t m A (countN c A) 0 g0) (h46 c s t m A 0 g0) st):∃ r,ev pg (.code (.going 32 L46_0) st)=some r∧∃ g,EndsAs (.exit 0) (T46 c t m A (countN c A) A g) (h46 c s t m A A g) r:=by
 have hmid:=ht.mid
 have hP:=ht.pil
 have hS:=ht.shp
 have hst:=ht.st
 rw [hA] at hmid hP
 have hact:=hmid.act
 have hhi:=hmid.hi
 have hN:countN c A≤172:=by
  have:=hmid.sig
  have:=hmid.inp
  unfold countN
  omega
 have hend:=any_bad.1 (stE_iff.1 hst).2.2.1
 have hwl:t.valves.length=A:=by have:=hS.w; omega
 have hel:t.ends.length=A:=by have:=hS.e; omega
 refine loop_at A (T46 c t m A (countN c A)) (h46 c s t m A) (fun _ _=>True) _ ?_ ?_ g0 trivial h0 |>.imp fun r h=>⟨h.1,h.2⟩
 ·rintro k g f hf hk -
  have hk':(k:Int) < A:=by omega
  have wk:=wrap_id (n:=(k:Int) + 1) (by omega) (by omega)
  have hkp:k < c.plus.length:=by rw [hP.p]; exact hk
  have hkm:k < c.minus.length:=by rw [hP.m]; exact hk
  have hkw:k < t.valves.length:=by omega
  have hke:k < t.ends.length:=by omega
  obtain ⟨p0,p1⟩:=hP.pb _ (List.getElem_mem hkp)
  obtain ⟨q0,q1⟩:=hP.mb _ (List.getElem_mem hkm)
  have e1:=ev82 ht c.plus[k] p0 p1
  have e2:=ev82 ht c.minus[k] q0 q1
  have hpl:((linesV t)[(c.plus[k]).toNat]?).getD false=lineV' (linesV t) c.plus k:=by
   unfold lineV'; rw [List.getElem?_eq_getElem hkp]; rfl
  have hmi:((linesV t)[(c.minus[k]).toNat]?).getD false=lineV' (linesV t) c.minus k:=by
   unfold lineV'; rw [List.getElem?_eq_getElem hkm]; rfl
  rw [hpl] at e1
  rw [hmi] at e2
  have l1:(vA c t).length=t.valves.length:=List.length_mapIdx
  have l2:(eA c t).length=t.ends.length:=by rw [List.length_zipWith,l1]; omega
  have f1:=mix_set (A:=vA c t) (B:=t.valves) l1 (k:=k) (by omega)
  have f2:=mix_set (A:=eA c t) (B:=t.ends) l2 (k:=k) (by omega)
  have hva:(vA c t)[k]'(by omega)=valvF c (linesV t) k t.valves[k]:=List.getElem_mapIdx ..
  have hea:(eA c t)[k]'(by omega)=goesE (valvF c (linesV t) k t.valves[k]) t.ends[k]:=by
   rw [List.getElem_zipWith,hva]
  rw [hva] at f1
  rw [hea] at f2
  have m1:=mix_len (A:=vA c t) (B:=t.valves) l1 (k:=k) (by omega)
  have m2:=mix_len (A:=eA c t) (B:=t.ends) l2 (k:=k) (by omega)
  have n1:=mix_get (A:=vA c t) (B:=t.valves) l1 (k:=k) (by omega)
  have n2:=mix_get (A:=eA c t) (B:=t.ends) l2 (k:=k) (by omega)
  rw [List.getElem?_eq_getElem hkw] at n1
  rw [List.getElem?_eq_getElem hke] at n2
  have f4:=selL_succ (fun i=>lineV' (linesV t) c.plus i && lineV' (linesV t) c.minus i) (countN c A:Nat) k
  have hsl:=selL_len (fun i=>lineV' (linesV t) c.plus i && lineV' (linesV t) c.minus i) (countN c A:Nat) k
  obtain ⟨x0,x4⟩:=hend _ (List.getElem_mem hke)
  have hge:=goesE_in (v:=valvF c (linesV t) k t.valves[k]) x0 x4
  have hvf:valvF c (linesV t) k t.valves[k]=if lineV' (linesV t) c.plus k != lineV' (linesV t) c.minus k then lineV' (linesV t) c.plus k else t.valves[k]:=rfl
  rw [hge,hvf] at f2
  rw [hvf] at f1
  unfold h46 T46 cfL
  rw [← f1,← f2,f4]
  clear hge hvf f1 f2 f4 hva hea hpl hmi
  generalize mix (vA c t) t.valves k=VV at *
  generalize mix (eA c t) t.ends k=EE at *
  generalize selL (fun i=>lineV' (linesV t) c.plus i && lineV' (linesV t) c.minus i) (countN c A:Nat) k=B at *
  generalize lineV' (linesV t) c.plus k=pl at *
  generalize lineV' (linesV t) c.minus k=mi at *
  generalize hv0:t.valves[k]=v0 at *
  generalize he0:t.ends[k]=e0 at *
  have hkV:k < VV.length:=by omega
  have hkE:k < EE.length:=by omega
  have v1:VV[k]=v0:=by rw [List.getElem?_eq_getElem hkV] at n1; exact Option.some.inj n1
  have t1:EE[k]=e0:=by rw [List.getElem?_eq_getElem hkE] at n2; exact Option.some.inj n2
  have vs:VV.set k v0=VV:=by rw [← v1]; exact List.set_getElem_self _
  have es:EE.set k e0=EE:=by rw [← t1]; exact List.set_getElem_self _
  have hb1:(m.length + (B.length + 1)) * 8≤140737488355328:=by omega
  have hb2:(m.length + B.length + 1) * 8≤140737488355328:=by omega
  have vs2:(VV.map brow).set k [.bool v0]=VV.map brow:=by rw [show [V.bool v0]=brow v0 from rfl,← List.map_set,vs]
  have es2:(EE.map nrow).set k [num e0]=EE.map nrow:=by rw [show [num e0]=nrow e0 from rfl,← List.map_set,es]
  generalize countN c A=N at *
  have wN:=wrap_id (n:=(N:Int) + (k:Int)) (by omega) (by omega)
  have hVA:k < A:=hk
  have hEb:e0=0∨e0=1∨e0=2∨e0=3:=by omega
  have hVl:VV.length=A:=by omega
  have hEl:EE.length=A:=by omega
  rcases hEb with rfl | rfl | rfl | rfl <;> cases pl <;> cases mi <;> cases v0 <;> simp [ev_draw1,exT,chkOk,L46_0,hk',wk,hkp,hkm,e1,e2,wN,hkV,hkE,hwl,hel,hVA,v1,t1,vs,es,vs2,es2,hb1,hb2,hVl,hEl,Nat.add_assoc,hf.ne]
 ·rintro g f hf -
  unfold h46 T46
  generalize cfL c (linesV t) A A=B at *
  simp [L46_0,hf.ne]
end Go.Proofs.YtbhkplbciajikaaGreat
