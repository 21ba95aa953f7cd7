/- The law PlantStills, in Am: it returns true. -/
import Derived.Test.YtbhkplbciajikaaGreatLw3
import Derived.KernelRfl
set_option linter.all false
namespace Go.Proofs.YtbhkplbciajikaaGreat
open Go Go.Am Go.Proofs
set_option maxRecDepth 100000
theorem ev26 (c:Ct) (s:Ste):ev pg (.call (.fn 26 [] []) [c.v,s.v] [])=some { v:=.bool (c.few && s.few && (stE c s == 0)),st:=⟨[],[]⟩ }:=by
 have e9:=ev9 c s
 rw [ev_call,pg26]
 cases hf:(c.few && s.few) with
 | false =>
  rw [hf] at e9
  simp [ir26,e9]
 | true =>
  rw [hf] at e9
  obtain ⟨hc,hs⟩:=few_both hf
  have e27:=ev27' c s hc hs
  simp [ir26,e9,e27]
structure Lie (c:Ct) (t:Ste):Prop where
 rdy:Rdy c t
 still:∃ a,roundV c t=some (t,a)
theorem restE_lie {c:Ct} {s:Ste} (h:Rdy c s) (he:(restE c s).2.2=0):Lie c (restE c s).1∧(restE c s).1.inputs=s.inputs:=by
 unfold restE at he ⊢
 cases hZ:restV c s with
 | none=>rw [hZ] at he; simp at he
 | some x =>
  obtain ⟨t,m⟩:=x
  exact ⟨⟨⟨h.few,restV_right h.st hZ⟩,restV_still hZ⟩,restV_inputs hZ⟩
theorem Lie.quiet {c:Ct} {t:Ste} (h:Lie c t):quietR c t=(true,0):=by
 obtain ⟨a,ha⟩:=h.still
 unfold quietR stillB
 rw [if_pos h.rdy.st,ha]
 simp [sameT_self]
theorem Lie.rest {c:Ct} {t:Ste} (h:Lie c t):(restR c t).1=t∧(restR c t).2.2=0:=by
 obtain ⟨a,ha⟩:=h.still
 unfold restR restE
 rw [if_pos h.rdy.st,still_rest ha]
 exact ⟨rfl,rfl⟩
def T6 (c:Ct) (n k:Nat):Tm:=[none,none,some (.bptr 0 0),some (.bptr 1 0),some (.bool false),some (.bptr 7 0),none,none,none,none,none,none,none,some (.sl 14 0 1 0 n)]++List.replicate 60 none++[some (num c.act),some (num k)]++List.replicate 62 none
def h6 (c:Ct) (s t:Ste):H:=[⟨0,.box c.cells⟩,⟨0,.box s.cells⟩,o0,o0,o0,o0,o0,⟨0,.box t.cells⟩,o0,o0,o0,o0,o0,⟨0,.box t.cells⟩,⟨0,.arr 1 ((linesV t).map brow)⟩]
set_option maxHeartbeats 4000000 in
theorem lp6 {c:Ct} (s:Ste) {t:Ste} (h:Lie c t) {st:St} (h0:At (T6 c (linesV t).length 0) (h6 c s t) st):∃ r,ev pg (.code (.going 15 L6_0) st)=some r∧EndsAs (.exit 0) (T6 c (linesV t).length c.act.toNat) (h6 c s t) r:=by
 have hM:=h.rdy.mid
 have hS:=h.rdy.shp
 have hP:=h.rdy.pil
 have hA:=hM.act
 have hAhi:=hM.hi
 have hSe:=hS.e
 have hSw:=hS.w
 obtain ⟨a,ha⟩:=h.still
 refine loop_pic c.act.toNat (T6 c (linesV t).length) (fun _=>h6 c s t) _ ?_ ?_ h0
 ·intro k f hf hk
  have hk':(k:Int) < c.act:=by omega
  have wk:=wrap_id (n:=(k:Int) + 1) (by omega) (by omega)
  have hkp:k < c.plus.length:=by have:=hP.p; omega
  have hkm:k < c.minus.length:=by have:=hP.m; omega
  have hke:k < t.ends.length:=by omega
  have hkv:k < t.valves.length:=by omega
  obtain ⟨p0,p1,p2⟩:=pil_get hkp hP.pb
  obtain ⟨q0,q1,q2⟩:=pil_get hkm hP.mb
  have v1:=still_end h.rdy.st ha hke hkv
  have v2:=still_valve ha (i:=k) hkv
  unfold T6 h6
  generalize lineV' (linesV t) c.plus k=pl at *
  generalize lineV' (linesV t) c.minus k=mi at *
  generalize linesV t=L at *
  have hw:t.valves[k]=true∨t.valves[k]=false:=by cases t.valves[k] <;> simp
  by_cases e2:t.ends[k]=2
  ·have v3:t.valves[k]=true:=by rw [v1,e2]; rfl
   cases pl <;> cases mi <;> simp [v3] at v2 <;> simp [ev_draw1,exT,chkOk,L6_0,hk',wk,hkp,hkm,hke,hkv,p0,p1,p2,q0,q1,q2,e2,v3,hf.ne]
  ·have b2:(t.ends[k] == 2)=false:=by simpa using e2
   by_cases e1:t.ends[k]=1
   ·have v3:t.valves[k]=true:=by rw [v1,e1]; rfl
    cases pl <;> cases mi <;> simp [v3] at v2 <;> simp [ev_draw1,exT,chkOk,L6_0,hk',wk,hkp,hkm,hke,hkv,p0,p1,p2,q0,q1,q2,e2,e1,b2,v3,hf.ne]
   ·have b1:(t.ends[k] == 1)=false:=by simpa using e1
    have v3:t.valves[k]=false:=by rw [v1]; simp [e1,e2]
    cases pl <;> cases mi <;> simp [v3] at v2 <;> simp [ev_draw1,exT,chkOk,L6_0,hk',wk,hkp,hkm,hke,hkv,p0,p1,p2,q0,q1,q2,e2,e1,b2,b1,v3,hf.ne]
 ·intro f hf
  have hmx:max c.act 0=c.act:=by omega
  unfold T6 h6
  generalize linesV t=L at *
  simp [L6_0,hmx,hf.ne]
end Go.Proofs.YtbhkplbciajikaaGreat
