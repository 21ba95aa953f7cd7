/- The law PlantStills, in Am: it returns true. The law PlantStills returns true for every input, and leaves what came in as it was. It holds with no further condition. -/
import Derived.Test.YtbhkplbciajikaaGreatLw4
import Derived.KernelRfl
import Derived.Test.YtbhkplbciajikaaGreatRows
import Derived.Test.YtbhkplbciajikaaGreatTy5
import Derived.ProofKit
import Derived.WalkKit
import Derived.OpenShut
import Derived.ShutString
import Derived.ChangeOld
import Derived.Below
set_option linter.all false
namespace Go.Proofs.YtbhkplbciajikaaGreat
open Go Go.Am Go.Proofs
set_option maxRecDepth 100000
theorem ev6 (c:Ct) (s:Ste):ev pg (.call (.fn 6 [] []) [c.v,s.v] [])=some { v:=.bool true,st:=⟨[],[]⟩ }:=by
 have e26:=ev26 c s
 have e10:=ev10
 rw [ev_call,pg6]
 cases hf:(c.few && s.few && (stE c s == 0)) with
 | false =>
  rw [hf] at e26
  simp [ir6,e26,e10]
 | true =>
  rw [hf] at e26
  rw [Bool.and_eq_true] at hf
  obtain ⟨hf,hst⟩:=hf
  obtain ⟨hc,hs⟩:=few_both hf
  have hR:Rdy c s:=⟨hc,by simpa using hst⟩
  have e16:=ev16 c s hc hs
  have hre:restR c s=restE c s:=by unfold restR; rw [if_pos hR.st]
  rw [hre] at e16
  by_cases he:(restE c s).2.2=0
  ·obtain ⟨hL,hI⟩:=restE_lie hR he
   generalize restE c s=x at *
   obtain ⟨t,m,e⟩:=x
   simp only at hL hI he
   subst he
   have e11:=ev11 c t hc hL.rdy.small
   rw [hL.quiet] at e11
   have e16b:=ev16 c t hc hL.rdy.small
   obtain ⟨r1,r2⟩:=hL.rest
   have e20:=ev20 t t hL.rdy.small
   rw [sameT_self] at e20
   have e27:=ev27' c t hc hL.rdy.small
   rw [hL.rdy.st] at e27
   have e28:=ev28 c t hL.rdy.small hL.rdy.shp.e
   have e29:=ev29 t.inputs s.inputs hL.rdy.small.i
   rw [hI] at e29
   simp only [decide_true] at e29
   have hl:=@lp6 c s t hL
   unfold h6 at hl
   generalize restR c t=y at *
   obtain ⟨t2,m2,e2⟩:=y
   simp only at r1 r2
   subst r1 r2
   generalize linesV t2=L at *
   simp [ir6,e26,e16,e11,e16b,e20,e27,e28,show IntKind.i64.wrap 0=0 by decide,ev_loop,moveVs,moveV,moveL,move1]
   generalize hr:ev pg (.code (.going _ L6_0) _)=o
   obtain ⟨r,rfl,f,hf,rfl⟩:∃ r,o=some r∧_:=by rw [← hr]; exact hl (by simp [T6])
   simp [T6,hI,e29,e10]
  ·have hx:(restE c s).2.2=21:=by
    unfold restE at he ⊢
    cases hZ:restV c s with
    | none=>rfl
    | some x=>rw [hZ] at he; exact absurd rfl he
   generalize restE c s=x at *
   obtain ⟨t,m,e⟩:=x
   simp only at hx
   subst hx
   simp [ir6,e26,e16,e10]
end Go.Proofs.YtbhkplbciajikaaGreat
namespace Go.Proofs.YtbhkplbciajikaaGreat.plantStillsDone
open Go Go.Am Go.Proofs Go.Proofs.YtbhkplbciajikaaGreat
open Go.ChangeShapes Go.WideShapes Go.ChangeAt Go.RowKit
set_option linter.unusedVariables false
theorem own:ownKnob Tryz.prog.godebug=none:=by kernel_rfl
theorem laidOut:laidOutB Tryz.prog=true:=by kernel_rfl
set_option maxRecDepth 100000 in
theorem lifted (os:Os) (started:os.Started) (H:Type) (enc:TypeId × Value→H) :
  ReturnsInHanded {} Tryz.checked os 6 .any (Rows.plantStillsSpec.pre6 enc Tryz.prog Tryz.f6 Rows.plantStillsRow.domain false) (Rows.plantStillsSpec.post enc Tryz.prog Tryz.f6 false true false false):=by
 refine returnsInHanded_of_change (C:=Tryz.checked) own started (by kernel_rfl) Tryz.func6
  (ChangeSpec.witness6 (enc:=enc) (C:=Tryz.checked) false ⟨#[],#[.agg #[.int .i64 0,.slice none 0 0,.slice none 0 0,.slice none 0 0,.slice none 0 0],.agg #[.slice none 0 0,.slice none 0 0,.slice none 0 0,.slice none 0 0,.slice none 0 0]],[]⟩ 8 (by kernel_rfl) (by kernel_rfl) (by kernel_rfl) (by kernel_rfl)) ?_
 intro W base args ds gs before hval0 hW hcnd _
 have hval:∀ (j:Nat) t v,Tryz.f6.params[j]?=some t→args[j]?=some v→Value.okWide Tryz.prog W .any base t v:=hval0
 have hW':=hW
 obtain ⟨p,q,hA0,hV,rfl,hfz,hnd⟩:=hW
 have hA:DataW.TrodAll enc Tryz.prog W 0 (fun _=>true) true Tryz.f6.params.toList args.toList ds p:=hA0
 rw [Tryz.params6] at hA hval
 obtain ⟨v0,vs0,d0,ds0,p0,q0,hargs,rfl,rfl,h0,r0⟩:=trodAll_cons hA
 obtain ⟨v1,vs1,d1,ds1,p1,q1,rfl,rfl,rfl,h1,r1⟩:=trodAll_cons r0
 obtain ⟨rfl,rfl,rfl⟩:=trodAll_nil r1
 obtain rfl:args=#[v0,v1]:=by cases args; simp_all
 obtain ⟨rfl,rfl⟩:=trodVars_none hV
 have k0:=h0
 have k1:=h1
 have lt0:∀ x ∈ p0,x.block < W.heap.size:=by obtain ⟨m,hm⟩:=k0; exact DataW.trod_lt m _ _ _ hm
 have lt1:∀ x ∈ p1,x.block < W.heap.size:=by obtain ⟨m,hm⟩:=k1; exact DataW.trod_lt m _ _ _ hm
 obtain ⟨n0,x0,a0,b0⟩:=arg_okS plainP (by decide:26 ∈ _) (hval 0 26 v0 rfl rfl) h0
 obtain ⟨n1,x1,a1,b1⟩:=arg_okS plainP (by decide:29 ∈ _) (hval 1 29 v1 rfl rfl) h1
 obtain ⟨y0,rfl⟩:∃ c:Ct,x0=c.v:=by
  rcases b0 with ⟨vs,rfl,ht⟩ | ⟨ha,_⟩
  ·obtain ⟨c,rfl⟩:=typed_ct ht
   exact ⟨c,rfl⟩
  ·rw [agg26] at ha
   cases ha
 obtain ⟨y1,rfl⟩:∃ s:Ste,x1=s.v:=by
  rcases b1 with ⟨vs,rfl,ht⟩ | ⟨ha,_⟩
  ·obtain ⟨s,rfl⟩:=typed_ste ht
   exact ⟨s,rfl⟩
  ·rw [agg29] at ha
   cases ha
 clear hA0 hval0
 have hr:=ev6 y0 y1
 refine (law_ok (us:=#[v0,v1]) made (by unfold relL; exact ⟨_,_,rfl,a0,by unfold relL; exact ⟨_,_,rfl,a1,by unfold relL; rfl⟩⟩) hr rfl).mono fun e W' ⟨he,old⟩=>?_
 subst he
 exact ⟨_,rfl,_,_,_,[],_,[],hW',trodAll_mk1 (shut_bool Tryz.underlying4 _),(trodAll_cons_mk (Old.trod laidOut (by kernel_rfl) (of_decide_eq_true (by kernel_rfl)) k0 old lt0) (trodAll_cons_mk (Old.trod laidOut (by kernel_rfl) (of_decide_eq_true (by kernel_rfl)) k1 old lt1) trodAll_mk0)),rfl,old.frame _,fun h=>by cases h⟩
theorem over:Rows.plantStillsRow.holds Tryz.pinned (OpenSpec.ofChange Rows.plantStillsSpec) :=
 OpenClaim.holds_of_wide 6 Tryz.f6 rfl rfl rfl rfl rfl rfl rfl ⟨rfl,rfl,rfl,rfl,rfl⟩ rfl rfl rfl rfl rfl (by kernel_rfl) Tryz.func6 (by kernel_rfl)
  (of_decide_eq_true (by kernel_rfl)) (by unfold Func.isWrapper; first | (rw [if_pos (by decide +kernel)]; kernel_rfl) | (rw [if_neg (by decide +kernel)]; exact ⟨rfl,rfl⟩))
  (fun os started H enc _=>lifted os started H enc)
theorem proved:Rows.PlantStillsSaid:=over
#print axioms proved
end Go.Proofs.YtbhkplbciajikaaGreat.plantStillsDone
