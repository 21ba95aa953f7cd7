/- What the arguments of the laws of sequences are. -/
import Derived.Test.YtopjiafdimoeiaaTy1
import Derived.Test.YtopjiafdimoeiaaSq1
namespace Go.Proofs.Ytopjiafdimoeiaa
open Go Go.Am Go.Proofs
set_option maxRecDepth 100000
theorem cells72 : Try.prog.cellsOf 72 = 1 := by kernel_rfl
theorem cells81 : Try.prog.cellsOf 81 = 1 := by kernel_rfl
theorem cells83 : Try.prog.cellsOf 83 = 2 := by kernel_rfl
theorem cells159 : Try.prog.cellsOf 159 = 2 := by kernel_rfl
theorem typed_stp {n : Nat} {vs : List V} (h : Typed Try.prog (n + 4) 159 vs) : ∃ x : Stp, vs = x.row := by
  unfold Typed at h
  rw [Try.underlying159] at h
  obtain ⟨hl, hf⟩ := h
  rw [cells159] at hl
  match vs, hl with
  | [a, b], _ =>
    have h1 := hf _ (by simp; exact .inl rfl)
    have h2 := hf _ (by simp; exact .inr rfl)
    simp [cells72, cells3] at h1 h2
    obtain ⟨w, rfl⟩ := typed_words h1
    obtain ⟨m, h2, _⟩ := typed_int h2
    exact ⟨⟨w, m⟩, by simpa using h2⟩
theorem typed_sq {n : Nat} {vs : List V} (h : Typed Try.prog (n + 6) 83 vs) : ∃ x : Sq, vs = x.cells := by
  unfold Typed at h
  rw [Try.underlying83] at h
  obtain ⟨hl, hf⟩ := h
  rw [cells83] at hl
  match vs, hl with
  | [a, b], _ =>
    have h1 := hf _ (by simp; exact .inl rfl)
    have h2 := hf _ (by simp; exact .inr rfl)
    simp [cells81, cells3] at h1 h2
    obtain ⟨m, h1, _⟩ := typed_int h1
    unfold Typed at h2
    rw [Try.underlying81] at h2
    obtain ⟨els, he, _, hel⟩ := h2
    obtain ⟨l, rfl⟩ := typed_rows (n := n + 4) (e := 159) (row := Stp.row) (fun vs h => typed_stp h) fun r hr => (hel r hr).2
    exact ⟨⟨m, l⟩, by rw [he]; simpa using h1⟩
theorem plain83 : plainT Try.prog 6 83 = true := by kernel_rfl
theorem plain85 : plainT Try.prog 6 85 = true := by kernel_rfl
theorem plain5 : plainT Try.prog 6 5 = true := by kernel_rfl
theorem plain72' : plainT Try.prog 6 72 = true := by kernel_rfl
theorem agg83 : isAggB Try.prog 83 = true := by kernel_rfl
theorem agg85 : isAggB Try.prog 85 = true := by kernel_rfl
theorem typed_u8 {n : Nat} {vs : List V} (h : Typed Try.prog (n + 1) 5 vs) : ∃ m, vs = [.int .u8 m] ∧ 0 ≤ m ∧ m ≤ 255 := by
  unfold Typed at h
  rw [Try.underlying5] at h
  obtain ⟨m, rfl, hw⟩ := h
  refine ⟨m, rfl, ?_⟩
  simpa [Lit.wf, IntKind.bits, IntKind.signed, IntKind.wrap, IntKind.min, IntKind.max] using hw
end Go.Proofs.Ytopjiafdimoeiaa
