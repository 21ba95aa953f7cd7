/- What the arguments of the laws of fault are. What the arguments of the laws of fault are: states. The law FaultCarries returns true for every input, and leaves what came in as it was. It holds with no further condition. -/
import Derived.Test.YtopjiafdimoeiaaGreatRc1
import Derived.Test.YtopjiafdimoeiaaGreatCt1
import Derived.Test.YtopjiafdimoeiaaGreatSa1
import Derived.Test.YtopjiafdimoeiaaGreatRows
import Derived.Test.YtopjiafdimoeiaaGreatCa2
import Derived.ProofKit
import Derived.WalkKit
import Derived.OpenShut
import Derived.ShutString
import Derived.ChangeOld
import Derived.Below
/- What the arguments of the laws of fault are. -/
namespace Go.Proofs.YtopjiafdimoeiaaGreat
open Go Go.Am Go.Proofs
set_option maxRecDepth 100000
theorem cells3 : Tryz.prog.cellsOf 3 = 1 := by kernel_rfl
theorem cells4 : Tryz.prog.cellsOf 4 = 1 := by kernel_rfl
theorem cells9 : Tryz.prog.cellsOf 9 = 1 := by kernel_rfl
theorem cells22 : Tryz.prog.cellsOf 22 = 1 := by kernel_rfl
theorem cells23 : Tryz.prog.cellsOf 23 = 1 := by kernel_rfl
theorem cells24 : Tryz.prog.cellsOf 24 = 1 := by kernel_rfl
theorem cells26 : Tryz.prog.cellsOf 26 = 5 := by kernel_rfl
theorem cells28 : Tryz.prog.cellsOf 28 = 2 := by kernel_rfl
theorem cells58 : Tryz.prog.cellsOf 58 = 1 := by kernel_rfl
theorem cells60 : Tryz.prog.cellsOf 60 = 3 := by kernel_rfl
theorem cells62 : Tryz.prog.cellsOf 62 = 10 := by kernel_rfl
theorem typed_int {n : Nat} {vs : List V} (h : Typed Tryz.prog n 3 vs) : ∃ m, vs = [num m] := by
  cases n with
  | zero => unfold Typed at h; exact absurd h (by simp)
  | succ n =>
    unfold Typed at h
    rw [Tryz.underlying3] at h
    obtain ⟨m, rfl, hw⟩ := h
    exact ⟨m, rfl⟩
theorem typed_bool {n : Nat} {vs : List V} (h : Typed Tryz.prog n 4 vs) : ∃ b, vs = [.bool b] := by
  cases n with
  | zero => unfold Typed at h; exact absurd h (by simp)
  | succ n =>
    unfold Typed at h
    rw [Tryz.underlying4] at h
    exact h
theorem typed_str {n : Nat} {vs : List V} (h : Typed Tryz.prog n 9 vs) : ∃ s, vs = [.str s] ∧ s.length ≤ maxLen := by
  cases n with
  | zero => unfold Typed at h; exact absurd h (by simp)
  | succ n =>
    unfold Typed at h
    rw [Tryz.underlying9] at h
    exact h
theorem typed_rows {n e : Nat} {α : Type} {row : α → List V} (hr : ∀ vs, Typed Tryz.prog n e vs → ∃ x, vs = row x) : ∀ {els : List (List V)}, (∀ r ∈ els, Typed Tryz.prog n e r) → ∃ l : List α, els = l.map row
  | [], _ => ⟨[], rfl⟩
  | r :: els, h => by
    obtain ⟨x, hx⟩ := hr r (h r (by simp))
    obtain ⟨l, hl⟩ := typed_rows hr (els := els) fun q hq => h q (by simp [hq])
    exact ⟨x :: l, by rw [hx, hl]; rfl⟩
theorem typed_slice {n t e : Nat} {α : Type} {row : α → List V} (hu : Tryz.prog.underlying t = some (.slice e)) (hr : ∀ n vs, Typed Tryz.prog n e vs → ∃ x, vs = row x) {vs : List V} (h : Typed Tryz.prog n t vs) : ∃ l : List α, vs = [.imm (l.map row)] := by
  cases n with
  | zero => unfold Typed at h; exact absurd h (by simp)
  | succ n =>
    unfold Typed at h
    rw [hu] at h
    obtain ⟨els, he, _, hel⟩ := h
    obtain ⟨l, rfl⟩ := typed_rows (n := n) (e := e) (row := row) (fun vs h => hr n vs h) fun r hr => (hel r hr).2
    exact ⟨l, he⟩
theorem typed_ex : ∀ {n : Nat} {vs : List V}, Typed Tryz.prog n 60 vs → ∃ x : Ex, vs = x.cells
  | 0, vs, h => by unfold Typed at h; exact absurd h (by simp)
  | 1, vs, h => by
    unfold Typed at h
    rw [Tryz.underlying60] at h
    obtain ⟨hl, hf⟩ := h
    have h1 := hf _ (by simp; exact .inl rfl)
    unfold Typed at h1
    exact absurd h1 (by simp)
  | n + 2, vs, h => by
    unfold Typed at h
    rw [Tryz.underlying60] at h
    obtain ⟨hl, hf⟩ := h
    rw [cells60] at hl
    match vs, hl with
    | [a, b, d], _ =>
      have h1 := hf _ (by simp; exact .inl rfl)
      have h2 := hf _ (by simp; exact .inr (.inl rfl))
      have h3 := hf _ (by simp; exact .inr (.inr rfl))
      simp [cells3, cells58] at h1 h2 h3
      obtain ⟨o, h1⟩ := typed_int h1
      obtain ⟨i, h2⟩ := typed_int h2
      unfold Typed at h3
      rw [Tryz.underlying58] at h3
      obtain ⟨els, he, _, hel⟩ := h3
      obtain ⟨l, rfl⟩ := typed_rows (n := n) (e := 60) (row := Ex.row) (fun vs h => by obtain ⟨x, hx⟩ := typed_ex h; exact ⟨x, by rw [hx, row_eq]⟩) fun r hr => (hel r hr).2
      refine ⟨.mk o i l, ?_⟩
      simp at h1 h2 he
      rw [h1, h2, he]
      rfl
theorem typed_sg {n : Nat} {vs : List V} (h : Typed Tryz.prog n 62 vs) : ∃ x : Sg, vs = x.row := by
  cases n with
  | zero => unfold Typed at h; exact absurd h (by simp)
  | succ n =>
    unfold Typed at h
    rw [Tryz.underlying62] at h
    obtain ⟨hl, hf⟩ := h
    rw [cells62] at hl
    match vs, hl with
    | [a0, a1, a2, a3, a4, a5, a6, a7, a8, a9], _ =>
      have h0 := hf _ (by simp; exact .inl rfl)
      have h1 := hf _ (by simp; exact .inr (.inl rfl))
      have h2 := hf _ (by simp; exact .inr (.inr (.inl rfl)))
      have h3 := hf _ (by simp; exact .inr (.inr (.inr (.inl rfl))))
      have h4 := hf _ (by simp; exact .inr (.inr (.inr (.inr (.inl rfl)))))
      have h5 := hf _ (by simp; exact .inr (.inr (.inr (.inr (.inr rfl)))))
      simp [cells3, cells4, cells9, cells60] at h0 h1 h2 h3 h4 h5
      obtain ⟨s, h0, _⟩ := typed_str h0
      obtain ⟨k, h1⟩ := typed_int h1
      obtain ⟨x, h2⟩ := typed_ex h2
      obtain ⟨y, h3⟩ := typed_ex h3
      obtain ⟨d, h4⟩ := typed_int h4
      obtain ⟨b, h5⟩ := typed_bool h5
      simp at h0 h1 h2 h3 h4 h5
      refine ⟨⟨s, k, x, y, d, b⟩, ?_⟩
      simp [h0, h1, h2, h3, h4, h5]
theorem typed_ct {n : Nat} {vs : List V} (h : Typed Tryz.prog n 26 vs) : ∃ c : Ct, vs = c.cells := by
  cases n with
  | zero => unfold Typed at h; exact absurd h (by simp)
  | succ n =>
    unfold Typed at h
    rw [Tryz.underlying26] at h
    obtain ⟨hl, hf⟩ := h
    rw [cells26] at hl
    match vs, hl with
    | [a0, a1, a2, a3, a4], _ =>
      have h0 := hf _ (by simp; exact .inl rfl)
      have h1 := hf _ (by simp; exact .inr (.inl rfl))
      have h2 := hf _ (by simp; exact .inr (.inr (.inl rfl)))
      have h3 := hf _ (by simp; exact .inr (.inr (.inr (.inl rfl))))
      have h4 := hf _ (by simp; exact .inr (.inr (.inr (.inr rfl))))
      simp [cells3, cells22, cells23, cells24] at h0 h1 h2 h3 h4
      obtain ⟨a, h0⟩ := typed_int h0
      obtain ⟨i, h1⟩ := typed_slice (row := srow) Tryz.underlying22 (fun n vs h => by obtain ⟨s, h, _⟩ := typed_str h; exact ⟨s, h⟩) h1
      obtain ⟨g, h2⟩ := typed_slice (row := Sg.row) Tryz.underlying23 (fun n vs h => typed_sg h) h2
      obtain ⟨p, h3⟩ := typed_slice (row := nrow) Tryz.underlying24 (fun n vs h => typed_int h) h3
      obtain ⟨q, h4⟩ := typed_slice (row := nrow) Tryz.underlying24 (fun n vs h => typed_int h) h4
      simp at h0 h1 h2 h3 h4
      refine ⟨⟨a, i, g, p, q⟩, ?_⟩
      simp [h0, h1, h2, h3, h4]
theorem typed_ft {n : Nat} {vs : List V} (h : Typed Tryz.prog n 28 vs) : ∃ k i : Int, vs = [num k, num i] := by
  cases n with
  | zero => unfold Typed at h; exact absurd h (by simp)
  | succ n =>
    unfold Typed at h
    rw [Tryz.underlying28] at h
    obtain ⟨hl, hf⟩ := h
    rw [cells28] at hl
    match vs, hl with
    | [a, b], _ =>
      have h1 := hf _ (by simp; exact .inl rfl)
      have h2 := hf _ (by simp; exact .inr rfl)
      simp [cells3] at h1 h2
      obtain ⟨k, h1⟩ := typed_int h1
      obtain ⟨i, h2⟩ := typed_int h2
      simp at h1 h2
      exact ⟨k, i, by rw [h1, h2]⟩
theorem agg26 : isAggB Tryz.prog 26 = true := by kernel_rfl
theorem agg28 : isAggB Tryz.prog 28 = true := by kernel_rfl
end Go.Proofs.YtopjiafdimoeiaaGreat
/- What the arguments of the laws of fault are: states. -/
namespace Go.Proofs.YtopjiafdimoeiaaGreat
open Go Go.Am Go.Proofs
set_option maxRecDepth 100000
theorem cells42 : Tryz.prog.cellsOf 42 = 1 := by kernel_rfl
theorem cells44 : Tryz.prog.cellsOf 44 = 5 := by kernel_rfl
theorem typed_ste {n : Nat} {vs : List V} (h : Typed Tryz.prog n 44 vs) : ∃ s : Ste, vs = s.cells := by
  cases n with
  | zero => unfold Typed at h; exact absurd h (by simp)
  | succ n =>
    unfold Typed at h
    rw [Tryz.underlying44] at h
    obtain ⟨hl, hf⟩ := h
    rw [cells44] at hl
    match vs, hl with
    | [a0, a1, a2, a3, a4], _ =>
      have h0 := hf _ (by simp; exact .inl rfl)
      have h1 := hf _ (by simp; exact .inr (.inl rfl))
      have h2 := hf _ (by simp; exact .inr (.inr (.inl rfl)))
      have h3 := hf _ (by simp; exact .inr (.inr (.inr (.inl rfl))))
      have h4 := hf _ (by simp; exact .inr (.inr (.inr (.inr rfl))))
      simp [cells24, cells42] at h0 h1 h2 h3 h4
      obtain ⟨e, h0⟩ := typed_slice (row := nrow) Tryz.underlying24 (fun n vs h => typed_int h) h0
      obtain ⟨w, h1⟩ := typed_slice (row := brow) Tryz.underlying42 (fun n vs h => typed_bool h) h1
      obtain ⟨i, h2⟩ := typed_slice (row := brow) Tryz.underlying42 (fun n vs h => typed_bool h) h2
      obtain ⟨v, h3⟩ := typed_slice (row := brow) Tryz.underlying42 (fun n vs h => typed_bool h) h3
      obtain ⟨t, h4⟩ := typed_slice (row := nrow) Tryz.underlying24 (fun n vs h => typed_int h) h4
      simp at h0 h1 h2 h3 h4
      refine ⟨⟨e, w, i, v, t⟩, ?_⟩
      simp [h0, h1, h2, h3, h4]
theorem plainG : plainS Tryz.prog [26, 28, 9, 3, 4, 22, 23, 24, 58, 60, 62, 42, 44] = true := by kernel_rfl
theorem agg44 : isAggB Tryz.prog 44 = true := by kernel_rfl
end Go.Proofs.YtopjiafdimoeiaaGreat
/- The law FaultCarries returns true for every input, and leaves what came in as it was. It holds with no further condition. -/
namespace Go.Proofs.YtopjiafdimoeiaaGreat.faultCarriesDone
open Go Go.Am Go.Proofs Go.Proofs.YtopjiafdimoeiaaGreat
open Go.ChangeShapes Go.WideShapes Go.ChangeAt Go.RowKit
set_option linter.unusedVariables false
theorem own : ownKnob Tryz.prog.godebug = none := by kernel_rfl
theorem laidOut : laidOutB Tryz.prog = true := by kernel_rfl
set_option maxRecDepth 100000 in
theorem lifted (os : Os) (started : os.Started) (H : Type) (enc : TypeId × Value → H) :
    ReturnsInHanded {} Tryz.checked os 4 .any (Rows.faultCarriesSpec.pre6 enc Tryz.prog Tryz.f4 Rows.faultCarriesRow.domain false) (Rows.faultCarriesSpec.post enc Tryz.prog Tryz.f4 false true false false) := by
  refine returnsInHanded_of_change (C := Tryz.checked) own started (by kernel_rfl) Tryz.func4
    (ChangeSpec.witness6 (enc := enc) (C := Tryz.checked) false ⟨#[], #[.agg #[.int .i64 0, .slice none 0 0, .slice none 0 0, .slice none 0 0, .slice none 0 0], .agg #[.int .i64 0, .int .i64 0], .agg #[.slice none 0 0, .slice none 0 0, .slice none 0 0, .slice none 0 0, .slice none 0 0]], []⟩ 8 (by kernel_rfl) (by kernel_rfl) (by kernel_rfl) (by kernel_rfl)) ?_
  intro W base args ds gs before hval0 hW hcnd _
  have hval : ∀ (j : Nat) t v, Tryz.f4.params[j]? = some t → args[j]? = some v → Value.okWide Tryz.prog W .any base t v := hval0
  have hW' := hW
  obtain ⟨p, q, hA0, hV, rfl, hfz, hnd⟩ := hW
  have hA : DataW.TrodAll enc Tryz.prog W 0 (fun _ => true) true Tryz.f4.params.toList args.toList ds p := hA0
  rw [Tryz.params4] at hA hval
  obtain ⟨v0, vs0, d0, ds0, p0, q0, hargs, rfl, rfl, h0, r0⟩ := trodAll_cons hA
  obtain ⟨v1, vs1, d1, ds1, p1, q1, rfl, rfl, rfl, h1, r1⟩ := trodAll_cons r0
  obtain ⟨v2, vs2, d2, ds2, p2, q2, rfl, rfl, rfl, h2, r2⟩ := trodAll_cons r1
  obtain ⟨rfl, rfl, rfl⟩ := trodAll_nil r2
  obtain rfl : args = #[v0, v1, v2] := by cases args; simp_all
  obtain ⟨rfl, rfl⟩ := trodVars_none hV
  have k0 := h0
  have k1 := h1
  have k2 := h2
  have lt0 : ∀ x ∈ p0, x.block < W.heap.size := by obtain ⟨m, hm⟩ := k0; exact DataW.trod_lt m _ _ _ hm
  have lt1 : ∀ x ∈ p1, x.block < W.heap.size := by obtain ⟨m, hm⟩ := k1; exact DataW.trod_lt m _ _ _ hm
  have lt2 : ∀ x ∈ p2, x.block < W.heap.size := by obtain ⟨m, hm⟩ := k2; exact DataW.trod_lt m _ _ _ hm
  obtain ⟨n0, x0, a0, b0⟩ := arg_okS plainG (by decide : 26 ∈ _) (hval 0 26 v0 rfl rfl) h0
  obtain ⟨n1, x1, a1, b1⟩ := arg_okS plainG (by decide : 28 ∈ _) (hval 1 28 v1 rfl rfl) h1
  obtain ⟨n2, x2, a2, b2⟩ := arg_okS plainG (by decide : 44 ∈ _) (hval 2 44 v2 rfl rfl) h2
  obtain ⟨y0, rfl⟩ : ∃ c : Ct, x0 = c.v := by
    rcases b0 with ⟨vs, rfl, ht⟩ | ⟨ha, _⟩
    · obtain ⟨c, rfl⟩ := typed_ct ht
      exact ⟨c, rfl⟩
    · rw [agg26] at ha
      cases ha
  obtain ⟨y1, y1i, rfl⟩ : ∃ k i : Int, x1 = fv k i := by
    rcases b1 with ⟨vs, rfl, ht⟩ | ⟨ha, _⟩
    · obtain ⟨k, i, rfl⟩ := typed_ft ht
      exact ⟨k, i, rfl⟩
    · rw [agg28] at ha
      cases ha
  obtain ⟨y2, rfl⟩ : ∃ s : Ste, x2 = s.v := by
    rcases b2 with ⟨vs, rfl, ht⟩ | ⟨ha, _⟩
    · obtain ⟨s, rfl⟩ := typed_ste ht
      exact ⟨s, rfl⟩
    · rw [agg44] at ha
      cases ha
  clear hA0 hval0
  obtain ⟨r, hr, hv⟩ := ev4 y0 y1 y1i y2
  refine (law_ok (us := #[v0, v1, v2]) made (by unfold relL; exact ⟨_, _, rfl, a0, by unfold relL; exact ⟨_, _, rfl, a1, by unfold relL; exact ⟨_, _, rfl, a2, by unfold relL; rfl⟩⟩⟩) hr hv).mono fun e W' ⟨he, old⟩ => ?_
  subst he
  exact ⟨_, rfl, _, _, _, [], _, [], hW', trodAll_mk1 (shut_bool Tryz.underlying4 _), (trodAll_cons_mk (Old.trod laidOut (by kernel_rfl) (of_decide_eq_true (by kernel_rfl)) k0 old lt0) (trodAll_cons_mk (Old.trod laidOut (by kernel_rfl) (of_decide_eq_true (by kernel_rfl)) k1 old lt1) (trodAll_cons_mk (Old.trod laidOut (by kernel_rfl) (of_decide_eq_true (by kernel_rfl)) k2 old lt2) trodAll_mk0))), rfl, old.frame _, fun h => by cases h⟩
theorem over : Rows.faultCarriesRow.holds Tryz.pinned (OpenSpec.ofChange Rows.faultCarriesSpec) :=
  OpenClaim.holds_of_wide 4 Tryz.f4 rfl rfl rfl rfl rfl rfl rfl ⟨rfl, rfl, rfl, rfl, rfl⟩ rfl rfl rfl rfl rfl (by kernel_rfl) Tryz.func4 (by kernel_rfl)
    (of_decide_eq_true (by kernel_rfl)) (by unfold Func.isWrapper; first | (rw [if_pos (by decide +kernel)]; kernel_rfl) | (rw [if_neg (by decide +kernel)]; exact ⟨rfl, rfl⟩))
    (fun os started H enc _ => lifted os started H enc)
/-- The statement. -/
theorem proved : Rows.FaultCarriesSaid := over
#print axioms proved
end Go.Proofs.YtopjiafdimoeiaaGreat.faultCarriesDone
