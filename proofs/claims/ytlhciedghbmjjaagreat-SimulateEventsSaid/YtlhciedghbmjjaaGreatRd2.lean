/- The value of a line, by plant. A round of the plant, by the program. -/
import Derived.Test.YtlhciedghbmjjaaGreatSe2
import Derived.KernelRfl
set_option linter.all false
namespace Go.Proofs.YtlhciedghbmjjaaGreat
open Go Go.Am Go.Proofs
set_option maxRecDepth 100000
theorem endsB_at:∀ (l:List Int) (k:Nat),(endsB l)[2 * k]?=l[k]?.map (· == 0)∧(endsB l)[2 * k + 1]?=l[k]?.map (· == 2)
 | [],k=>by simp [endsB]
 | e :: l,0=>by simp [endsB]
 | e :: l,k + 1=>by
  have ih:=endsB_at l k
  rw [show 2 * (k + 1)=2 * k + 1 + 1 by omega]
  simp only [endsB,List.getElem?_cons_succ]
  exact ih
theorem lines_low (s:Ste) {k:Nat} (hk:k < s.ends.length):(linesV s)[2 * k]?=some (s.ends[k] == 0)∧(linesV s)[2 * k + 1]?=some (s.ends[k] == 2):=by
 obtain ⟨h1,h2⟩:=endsB_at s.ends k
 have hl:=endsB_len s.ends
 unfold linesV
 rw [List.append_assoc,List.getElem?_append_left (by omega),List.getElem?_append_left (by omega),h1,h2,List.getElem?_eq_getElem hk]
 exact ⟨rfl,rfl⟩
theorem lines_inp (s:Ste) {k:Nat} (hk:k < s.inputs.length):(linesV s)[2 * s.ends.length + k]?=some s.inputs[k]:=by
 have hl:=endsB_len s.ends
 unfold linesV
 rw [List.append_assoc,List.getElem?_append_right (by omega),hl,Nat.add_sub_cancel_left,List.getElem?_append_left hk,List.getElem?_eq_getElem hk]
theorem lines_val (s:Ste) {k:Nat} (hk:k < s.values.length):(linesV s)[2 * s.ends.length + s.inputs.length + k]?=some s.values[k]:=by
 have hl:=endsB_len s.ends
 unfold linesV
 rw [List.getElem?_append_right (by rw [List.length_append]; omega),List.length_append,hl,Nat.add_sub_cancel_left,List.getElem?_eq_getElem hk]
theorem ev128 {c:Ct} {s:Ste} (h:Rdy c s) (x:Int) (h0:0≤x) (h1:x < (linesV s).length):ev pg (.call (.fn 128 [] []) [c.v,s.v,num x] [])=some { v:=.bool (((linesV s)[x.toNat]?).getD false),st:=⟨[],[]⟩ }:=by
 have hS:=h.shp
 have hm:=h.mid
 have hact:=hm.act
 have hhi:=hm.hi
 have hinp:=hm.inp
 have hsig:=hm.sig
 have he:=hS.e
 have hin:=hS.i
 have hv:=hS.v
 have hlen:=linesV_len s
 generalize c.act.toNat=A at *
 have hea:s.ends.length=A:=by omega
 obtain ⟨n,rfl⟩:∃ n:Nat,x=n:=⟨x.toNat,by omega⟩
 have wA:IntKind.i64.wrap (2 * c.act)=2 * (A:Int):=by rw [hact]; exact wrap_id (by omega) (by omega)
 have w1:IntKind.i64.wrap ((n:Int) - 2 * (A:Int))=(n:Int) - 2 * A:=wrap_id (by omega) (by omega)
 have w2:IntKind.i64.wrap ((n:Int) - 2 * (A:Int) - s.inputs.length)=(n:Int) - 2 * A - s.inputs.length:=wrap_id (by omega) (by omega)
 rw [ev_call,pg128]
 by_cases c1:n < 2 * A
 ·have c1':(n:Int) < 2 * (A:Int):=by omega
  rcases Nat.mod_two_eq_zero_or_one n with hp | hp
  ·obtain ⟨k,rfl⟩:∃ k,n=2 * k:=⟨n / 2,by omega⟩
   have hk:k < s.ends.length:=by omega
   obtain ⟨l1,l2⟩:=lines_low s hk
   have hq:Int.tdiv (2 * (k:Int)) 2=(k:Int):=by
    rw [show (2 * (k:Int))=((2 * k:Nat):Int) by omega,show (2:Int)=((2:Nat):Int) by rfl,← Int.ofNat_tdiv]
    congr 1
    omega
   have hr:Int.tmod (2 * (k:Int)) 2=0:=by
    rw [show (2 * (k:Int))=((2 * k:Nat):Int) by omega,show (2:Int)=((2:Nat):Int) by rfl,← Int.ofNat_tmod]
    omega
   have wk:=wrap_id (n:=(k:Int)) (by omega) (by omega)
   have c1'':2 * (k:Int) < 2 * (A:Int):=by omega
   have hkA:k < A:=by omega
   have tn:(2 * (k:Int)).toNat=2 * k:=by omega
   simp [ev_draw1,exT,chkOk,ir128,wA,c1'',hkA,hq,hr,wk,hk,l1,tn]
  ·obtain ⟨k,rfl⟩:∃ k,n=2 * k + 1:=⟨n / 2,by omega⟩
   have hk:k < s.ends.length:=by omega
   obtain ⟨l1,l2⟩:=lines_low s hk
   have hq:Int.tdiv (2 * (k:Int) + 1) 2=(k:Int):=by
    rw [show (2 * (k:Int) + 1)=((2 * k + 1:Nat):Int) by omega,show (2:Int)=((2:Nat):Int) by rfl,← Int.ofNat_tdiv]
    congr 1
    omega
   have hr:Int.tmod (2 * (k:Int) + 1) 2=1:=by
    rw [show (2 * (k:Int) + 1)=((2 * k + 1:Nat):Int) by omega,show (2:Int)=((2:Nat):Int) by rfl,← Int.ofNat_tmod]
    omega
   have wk:=wrap_id (n:=(k:Int)) (by omega) (by omega)
   have c1'':2 * (k:Int) + 1 < 2 * (A:Int):=by omega
   have tn:(2 * (k:Int) + 1).toNat=2 * k + 1:=by omega
   simp [ev_draw1,exT,chkOk,ir128,wA,c1'',hq,hr,wk,hk,l2,tn]
 ·have c1':¬ (n:Int) < 2 * (A:Int):=by omega
  obtain ⟨k,rfl⟩:∃ k,n=2 * A + k:=⟨n - 2 * A,by omega⟩
  have e1:((2 * A + k:Nat):Int) - 2 * A=(k:Int):=by omega
  rw [e1] at w1 w2
  have c2:¬ 2 * (A:Int) + (k:Int) < 2 * (A:Int):=by omega
  have w1':IntKind.i64.wrap (2 * (A:Int) + (k:Int) - 2 * (A:Int))=(k:Int):=by
   rw [wrap_id (by omega) (by omega)]; omega
  have tn:(2 * (A:Int) + (k:Int)).toNat=2 * A + k:=by omega
  by_cases c3:k < s.inputs.length
  ·have c3':(k:Int) < s.inputs.length:=by omega
   have l1:=lines_inp s c3
   rw [hea] at l1
   simp [ir128,wA,c2,w1',c3,c3',l1,tn]
  ·have c3':¬ (k:Int) < s.inputs.length:=by omega
   obtain ⟨q,rfl⟩:∃ q,k=s.inputs.length + q:=⟨k - s.inputs.length,by omega⟩
   have hq:q < s.values.length:=by omega
   have l1:=lines_val s hq
   rw [hea] at l1
   have w3:IntKind.i64.wrap ((s.inputs.length:Int) + (q:Int) - (s.inputs.length:Int))=(q:Int):=by
    rw [wrap_id (by omega) (by omega)]; omega
   have w4:IntKind.i64.wrap (2 * (A:Int) + ((s.inputs.length:Int) + (q:Int)) - 2 * (A:Int))=(s.inputs.length:Int) + q:=by
    rw [wrap_id (by omega) (by omega)]; omega
   have c4:¬ (s.inputs.length:Int) + (q:Int) < s.inputs.length:=by omega
   have c5:¬ 2 * (A:Int) + ((s.inputs.length:Int) + (q:Int)) < 2 * (A:Int):=by omega
   have tn2:(2 * (A:Int) + ((s.inputs.length:Int) + (q:Int))).toNat=2 * A + s.inputs.length + q:=by omega
   simp [ir128,wA,c5,w4,c4,w3,hq,tn2,l1]
theorem goesE_in {v:Bool} {e:Int} (h0:0≤e) (h4:e < 4):goesE v e=if v=true then (if e ≠ 2∧e ≠ 1 then 1 else e) else (if e ≠ 0∧e ≠ 3 then 3 else e):=by
 unfold goesE
 have:e=0∨e=1∨e=2∨e=3:=by omega
 rcases this with rfl | rfl | rfl | rfl <;> cases v <;> rfl
abbrev vA (c:Ct) (t:Ste):List Bool:=t.valves.mapIdx (valvF c (linesV t))
abbrev eA (c:Ct) (t:Ste):List Int:=List.zipWith goesE (vA c t) t.ends
abbrev h46 (c:Ct) (s t:Ste) (m:List Int) (A k:Nat) (g:Nat):H:=[⟨0,.box c.cells⟩,⟨0,.box s.cells⟩,o0,o0,o0,o0,o0,⟨0,.box (nil5 2)⟩]++ar5 t++[⟨g,.arr 1 ((m++cfL c (linesV t) A k).map nrow)⟩,o0,o0,o0,o0,o0,⟨0,.box (sl5 8 t)⟩,⟨0,.arr 1 ((mix (eA c t) t.ends k).map nrow)⟩,⟨0,.arr 1 ((mix (vA c t) t.valves k).map brow)⟩,⟨0,.arr 1 (t.inputs.map brow)⟩,⟨0,.arr 1 (t.values.map brow)⟩,⟨0,.arr 1 (t.timers.map nrow)⟩,o0,o0,o0,o0,o0,⟨0,.box (sl5 20 t)⟩,o0]
def T46 (c:Ct) (t:Ste) (m:List Int) (A N k:Nat) (g:Nat):Tm:=[none,none,some (.bptr 0 0),some (.bptr 1 0),some (.bptr 7 0),some (.sl 31 0 0 0 0),some (num 0),some (.bptr 19 0),some (.sl 13 g 1 0 (m++cfL c (linesV t) A k).length),none,some (.bptr 30 0),some (num N)]++List.replicate 30 none++[some (num A),some (num k)]++List.replicate 70 none
set_option maxHeartbeats 4000000 in
theorem lp46 {c:Ct} {t:Ste} (s:Ste) (ht:Rdy c t) (m:List Int) (hm:m.length≤4096) {A:Nat} (hA:c.act.toNat=A) {st:St} (g0:Nat) (h0:At (T46 c t m A (countN c A) 0 g0) (h46 c s t m A 0 g0) st):∃ r,ev pg (.code (.going 32 L89_0) st)=some r∧∃ g,EndsAs (.exit 0) (T46 c t m A (countN c A) A g) (h46 c s t m A A g) r:=by
 have hmid:=ht.mid
 have hP:=ht.pil
 have hS:=ht.shp
 have hst:=ht.st
 rw [hA] at hmid hP
 have hact:=hmid.act
 have hhi:=hmid.hi
 have hN:countN c A≤172:=by
  have:=hmid.sig
  have:=hmid.inp
  unfold countN
  omega
 have hend:=any_bad.1 (stE_iff.1 hst).2.2.1
 have hwl:t.valves.length=A:=by have:=hS.w; omega
 have hel:t.ends.length=A:=by have:=hS.e; omega
 refine loop_at A (T46 c t m A (countN c A)) (h46 c s t m A) (fun _ _=>True) _ ?_ ?_ g0 trivial h0 |>.imp fun r h=>⟨h.1,h.2⟩
 ·rintro k g f hf hk -
  have hk':(k:Int) < A:=by omega
  have wk:=wrap_id (n:=(k:Int) + 1) (by omega) (by omega)
  have hkp:k < c.plus.length:=by rw [hP.p]; exact hk
  have hkm:k < c.minus.length:=by rw [hP.m]; exact hk
  have hkw:k < t.valves.length:=by omega
  have hke:k < t.ends.length:=by omega
  obtain ⟨p0,p1⟩:=hP.pb _ (List.getElem_mem hkp)
  obtain ⟨q0,q1⟩:=hP.mb _ (List.getElem_mem hkm)
  have e1:=ev128 ht c.plus[k] p0 p1
  have e2:=ev128 ht c.minus[k] q0 q1
  have hpl:((linesV t)[(c.plus[k]).toNat]?).getD false=lineV' (linesV t) c.plus k:=by
   unfold lineV'; rw [List.getElem?_eq_getElem hkp]; rfl
  have hmi:((linesV t)[(c.minus[k]).toNat]?).getD false=lineV' (linesV t) c.minus k:=by
   unfold lineV'; rw [List.getElem?_eq_getElem hkm]; rfl
  rw [hpl] at e1
  rw [hmi] at e2
  have l1:(vA c t).length=t.valves.length:=List.length_mapIdx
  have l2:(eA c t).length=t.ends.length:=by rw [List.length_zipWith,l1]; omega
  have f1:=mix_set (A:=vA c t) (B:=t.valves) l1 (k:=k) (by omega)
  have f2:=mix_set (A:=eA c t) (B:=t.ends) l2 (k:=k) (by omega)
  have hva:(vA c t)[k]'(by omega)=valvF c (linesV t) k t.valves[k]:=List.getElem_mapIdx ..
  have hea:(eA c t)[k]'(by omega)=goesE (valvF c (linesV t) k t.valves[k]) t.ends[k]:=by
   rw [List.getElem_zipWith,hva]
  rw [hva] at f1
  rw [hea] at f2
  have m1:=mix_len (A:=vA c t) (B:=t.valves) l1 (k:=k) (by omega)
  have m2:=mix_len (A:=eA c t) (B:=t.ends) l2 (k:=k) (by omega)
  have n1:=mix_get (A:=vA c t) (B:=t.valves) l1 (k:=k) (by omega)
  have n2:=mix_get (A:=eA c t) (B:=t.ends) l2 (k:=k) (by omega)
  rw [List.getElem?_eq_getElem hkw] at n1
  rw [List.getElem?_eq_getElem hke] at n2
  have f4:=selL_succ (fun i=>lineV' (linesV t) c.plus i && lineV' (linesV t) c.minus i) (countN c A:Nat) k
  have hsl:=selL_len (fun i=>lineV' (linesV t) c.plus i && lineV' (linesV t) c.minus i) (countN c A:Nat) k
  obtain ⟨x0,x4⟩:=hend _ (List.getElem_mem hke)
  have hge:=goesE_in (v:=valvF c (linesV t) k t.valves[k]) x0 x4
  have hvf:valvF c (linesV t) k t.valves[k]=if lineV' (linesV t) c.plus k != lineV' (linesV t) c.minus k then lineV' (linesV t) c.plus k else t.valves[k]:=rfl
  rw [hge,hvf] at f2
  rw [hvf] at f1
  unfold h46 T46 cfL
  rw [← f1,← f2,f4]
  clear hge hvf f1 f2 f4 hva hea hpl hmi
  generalize mix (vA c t) t.valves k=VV at *
  generalize mix (eA c t) t.ends k=EE at *
  generalize selL (fun i=>lineV' (linesV t) c.plus i && lineV' (linesV t) c.minus i) (countN c A:Nat) k=B at *
  generalize lineV' (linesV t) c.plus k=pl at *
  generalize lineV' (linesV t) c.minus k=mi at *
  generalize hv0:t.valves[k]=v0 at *
  generalize he0:t.ends[k]=e0 at *
  have hkV:k < VV.length:=by omega
  have hkE:k < EE.length:=by omega
  have v1:VV[k]=v0:=by rw [List.getElem?_eq_getElem hkV] at n1; exact Option.some.inj n1
  have t1:EE[k]=e0:=by rw [List.getElem?_eq_getElem hkE] at n2; exact Option.some.inj n2
  have vs:VV.set k v0=VV:=by rw [← v1]; exact List.set_getElem_self _
  have es:EE.set k e0=EE:=by rw [← t1]; exact List.set_getElem_self _
  have hb1:(m.length + (B.length + 1)) * 8≤140737488355328:=by omega
  have hb2:(m.length + B.length + 1) * 8≤140737488355328:=by omega
  have vs2:(VV.map brow).set k [.bool v0]=VV.map brow:=by rw [show [V.bool v0]=brow v0 from rfl,← List.map_set,vs]
  have es2:(EE.map nrow).set k [num e0]=EE.map nrow:=by rw [show [num e0]=nrow e0 from rfl,← List.map_set,es]
  generalize countN c A=N at *
  have wN:=wrap_id (n:=(N:Int) + (k:Int)) (by omega) (by omega)
  have hVA:k < A:=hk
  have hEb:e0=0∨e0=1∨e0=2∨e0=3:=by omega
  have hVl:VV.length=A:=by omega
  have hEl:EE.length=A:=by omega
  rcases hEb with rfl | rfl | rfl | rfl <;> cases pl <;> cases mi <;> cases v0 <;> simp [ev_draw1,exT,chkOk,L89_0,hk',wk,hkp,hkm,e1,e2,wN,hkV,hkE,hwl,hel,hVA,v1,t1,vs,es,vs2,es2,hb1,hb2,hVl,hEl,Nat.add_assoc,hf.ne]
 ·rintro g f hf -
  unfold h46 T46
  generalize cfL c (linesV t) A A=B at *
  simp [L89_0,hf.ne]
end Go.Proofs.YtlhciedghbmjjaaGreat
