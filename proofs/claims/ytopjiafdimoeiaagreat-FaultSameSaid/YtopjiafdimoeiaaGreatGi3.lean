/- What the arguments of the laws of fault are: states. The law FaultSame returns true for every input, and leaves what came in as it was. It holds with no further condition. -/
import Derived.Test.YtopjiafdimoeiaaGreatTy3
import Derived.Test.YtopjiafdimoeiaaGreatSa1
import Derived.Test.YtopjiafdimoeiaaGreatRows
import Derived.Test.YtopjiafdimoeiaaGreatGb3
import Derived.ProofKit
import Derived.WalkKit
import Derived.OpenShut
import Derived.ShutString
import Derived.ChangeOld
import Derived.Below
/- What the arguments of the laws of fault are: states. -/
namespace Go.Proofs.YtopjiafdimoeiaaGreat
open Go Go.Am Go.Proofs
set_option maxRecDepth 100000
theorem cells42 : Tryz.prog.cellsOf 42 = 1 := by kernel_rfl
theorem cells44 : Tryz.prog.cellsOf 44 = 5 := by kernel_rfl
theorem typed_ste {n : Nat} {vs : List V} (h : Typed Tryz.prog n 44 vs) : ∃ s : Ste, vs = s.cells := by
  cases n with
  | zero => unfold Typed at h; exact absurd h (by simp)
  | succ n =>
    unfold Typed at h
    rw [Tryz.underlying44] at h
    obtain ⟨hl, hf⟩ := h
    rw [cells44] at hl
    match vs, hl with
    | [a0, a1, a2, a3, a4], _ =>
      have h0 := hf _ (by simp; exact .inl rfl)
      have h1 := hf _ (by simp; exact .inr (.inl rfl))
      have h2 := hf _ (by simp; exact .inr (.inr (.inl rfl)))
      have h3 := hf _ (by simp; exact .inr (.inr (.inr (.inl rfl))))
      have h4 := hf _ (by simp; exact .inr (.inr (.inr (.inr rfl))))
      simp [cells24, cells42] at h0 h1 h2 h3 h4
      obtain ⟨e, h0⟩ := typed_slice (row := nrow) Tryz.underlying24 (fun n vs h => typed_int h) h0
      obtain ⟨w, h1⟩ := typed_slice (row := brow) Tryz.underlying42 (fun n vs h => typed_bool h) h1
      obtain ⟨i, h2⟩ := typed_slice (row := brow) Tryz.underlying42 (fun n vs h => typed_bool h) h2
      obtain ⟨v, h3⟩ := typed_slice (row := brow) Tryz.underlying42 (fun n vs h => typed_bool h) h3
      obtain ⟨t, h4⟩ := typed_slice (row := nrow) Tryz.underlying24 (fun n vs h => typed_int h) h4
      simp at h0 h1 h2 h3 h4
      refine ⟨⟨e, w, i, v, t⟩, ?_⟩
      simp [h0, h1, h2, h3, h4]
theorem plainG : plainS Tryz.prog [26, 28, 9, 3, 4, 22, 23, 24, 58, 60, 62, 42, 44] = true := by kernel_rfl
theorem agg44 : isAggB Tryz.prog 44 = true := by kernel_rfl
end Go.Proofs.YtopjiafdimoeiaaGreat
/- The law FaultSame returns true for every input, and leaves what came in as it was. It holds with no further condition. -/
namespace Go.Proofs.YtopjiafdimoeiaaGreat.faultSameDone
open Go Go.Am Go.Proofs Go.Proofs.YtopjiafdimoeiaaGreat
open Go.ChangeShapes Go.WideShapes Go.ChangeAt Go.RowKit
set_option linter.unusedVariables false
theorem own : ownKnob Tryz.prog.godebug = none := by kernel_rfl
theorem laidOut : laidOutB Tryz.prog = true := by kernel_rfl
set_option maxRecDepth 100000 in
theorem lifted (os : Os) (started : os.Started) (H : Type) (enc : TypeId × Value → H) :
    ReturnsInHanded {} Tryz.checked os 5 .any (Rows.faultSameSpec.pre6 enc Tryz.prog Tryz.f5 Rows.faultSameRow.domain false) (Rows.faultSameSpec.post enc Tryz.prog Tryz.f5 false true false false) := by
  refine returnsInHanded_of_change (C := Tryz.checked) own started (by kernel_rfl) Tryz.func5
    (ChangeSpec.witness6 (enc := enc) (C := Tryz.checked) false ⟨#[], #[.agg #[.int .i64 0, .slice none 0 0, .slice none 0 0, .slice none 0 0, .slice none 0 0], .int .i64 0, .agg #[.slice none 0 0, .slice none 0 0, .slice none 0 0, .slice none 0 0, .slice none 0 0]], []⟩ 8 (by kernel_rfl) (by kernel_rfl) (by kernel_rfl) (by kernel_rfl)) ?_
  intro W base args ds gs before hval0 hW hcnd _
  have hval : ∀ (j : Nat) t v, Tryz.f5.params[j]? = some t → args[j]? = some v → Value.okWide Tryz.prog W .any base t v := hval0
  have hW' := hW
  obtain ⟨p, q, hA0, hV, rfl, hfz, hnd⟩ := hW
  have hA : DataW.TrodAll enc Tryz.prog W 0 (fun _ => true) true Tryz.f5.params.toList args.toList ds p := hA0
  rw [Tryz.params5] at hA hval
  obtain ⟨v0, vs0, d0, ds0, p0, q0, hargs, rfl, rfl, h0, r0⟩ := trodAll_cons hA
  obtain ⟨v1, vs1, d1, ds1, p1, q1, rfl, rfl, rfl, h1, r1⟩ := trodAll_cons r0
  obtain ⟨v2, vs2, d2, ds2, p2, q2, rfl, rfl, rfl, h2, r2⟩ := trodAll_cons r1
  obtain ⟨rfl, rfl, rfl⟩ := trodAll_nil r2
  obtain rfl : args = #[v0, v1, v2] := by cases args; simp_all
  obtain ⟨rfl, rfl⟩ := trodVars_none hV
  have k0 := h0
  have k1 := h1
  have k2 := h2
  have lt0 : ∀ x ∈ p0, x.block < W.heap.size := by obtain ⟨m, hm⟩ := k0; exact DataW.trod_lt m _ _ _ hm
  have lt1 : ∀ x ∈ p1, x.block < W.heap.size := by obtain ⟨m, hm⟩ := k1; exact DataW.trod_lt m _ _ _ hm
  have lt2 : ∀ x ∈ p2, x.block < W.heap.size := by obtain ⟨m, hm⟩ := k2; exact DataW.trod_lt m _ _ _ hm
  obtain ⟨n0, x0, a0, b0⟩ := arg_okS plainG (by decide : 26 ∈ _) (hval 0 26 v0 rfl rfl) h0
  obtain ⟨n1, x1, a1, b1⟩ := arg_okS plainG (by decide : 3 ∈ _) (hval 1 3 v1 rfl rfl) h1
  obtain ⟨n2, x2, a2, b2⟩ := arg_okS plainG (by decide : 44 ∈ _) (hval 2 44 v2 rfl rfl) h2
  obtain ⟨y0, rfl⟩ : ∃ c : Ct, x0 = c.v := by
    rcases b0 with ⟨vs, rfl, ht⟩ | ⟨ha, _⟩
    · obtain ⟨c, rfl⟩ := typed_ct ht
      exact ⟨c, rfl⟩
    · rw [agg26] at ha
      cases ha
  obtain ⟨y1, rfl⟩ : ∃ n : Int, x1 = num n := by
    rcases b1 with ⟨vs, rfl, ht⟩ | ⟨_, ht⟩
    · unfold rel at a1
      obtain ⟨us, rfl, _⟩ := a1
      obtain ⟨a, hh⟩ := okWide_int Tryz.underlying3 (hval 1 3 _ rfl rfl)
      cases hh
    · obtain ⟨m, hm⟩ := typed_int ht
      cases hm
      exact ⟨m, rfl⟩
  obtain ⟨y2, rfl⟩ : ∃ s : Ste, x2 = s.v := by
    rcases b2 with ⟨vs, rfl, ht⟩ | ⟨ha, _⟩
    · obtain ⟨s, rfl⟩ := typed_ste ht
      exact ⟨s, rfl⟩
    · rw [agg44] at ha
      cases ha
  clear hA0 hval0
  obtain ⟨r, hr, hv⟩ := ev5 y0 y1 y2
  refine (law_ok (us := #[v0, v1, v2]) made (by unfold relL; exact ⟨_, _, rfl, a0, by unfold relL; exact ⟨_, _, rfl, a1, by unfold relL; exact ⟨_, _, rfl, a2, by unfold relL; rfl⟩⟩⟩) hr hv).mono fun e W' ⟨he, old⟩ => ?_
  subst he
  exact ⟨_, rfl, _, _, _, [], _, [], hW', trodAll_mk1 (shut_bool Tryz.underlying4 _), (trodAll_cons_mk (Old.trod laidOut (by kernel_rfl) (of_decide_eq_true (by kernel_rfl)) k0 old lt0) (trodAll_cons_mk (Old.trod laidOut (by kernel_rfl) (of_decide_eq_true (by kernel_rfl)) k1 old lt1) (trodAll_cons_mk (Old.trod laidOut (by kernel_rfl) (of_decide_eq_true (by kernel_rfl)) k2 old lt2) trodAll_mk0))), rfl, old.frame _, fun h => by cases h⟩
theorem over : Rows.faultSameRow.holds Tryz.pinned (OpenSpec.ofChange Rows.faultSameSpec) :=
  OpenClaim.holds_of_wide 5 Tryz.f5 rfl rfl rfl rfl rfl rfl rfl ⟨rfl, rfl, rfl, rfl, rfl⟩ rfl rfl rfl rfl rfl (by kernel_rfl) Tryz.func5 (by kernel_rfl)
    (of_decide_eq_true (by kernel_rfl)) (by unfold Func.isWrapper; first | (rw [if_pos (by decide +kernel)]; kernel_rfl) | (rw [if_neg (by decide +kernel)]; exact ⟨rfl, rfl⟩))
    (fun os started H enc _ => lifted os started H enc)
/-- The statement. -/
theorem proved : Rows.FaultSameSaid := over
#print axioms proved
end Go.Proofs.YtopjiafdimoeiaaGreat.faultSameDone
