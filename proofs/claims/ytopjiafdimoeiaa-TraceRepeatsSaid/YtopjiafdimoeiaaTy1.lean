/- What the arguments of the laws of trace are. -/
import Derived.Test.YtopjiafdimoeiaaEn5
import Derived.Test.YtopjiafdimoeiaaTr1
namespace Go.Proofs.Ytopjiafdimoeiaa
open Go Go.Am Go.Proofs
set_option maxRecDepth 100000
theorem cells3 : Try.prog.cellsOf 3 = 1 := by kernel_rfl
theorem cells4 : Try.prog.cellsOf 4 = 1 := by kernel_rfl
theorem cells85 : Try.prog.cellsOf 85 = 2 := by kernel_rfl
theorem typed_int {n : Nat} {vs : List V} (h : Typed Try.prog (n + 1) 3 vs) : ∃ m, vs = [num m] ∧ -9223372036854775808 ≤ m ∧ m ≤ 9223372036854775807 := by
  unfold Typed at h
  rw [Try.underlying3] at h
  obtain ⟨m, rfl, hw⟩ := h
  refine ⟨m, rfl, ?_⟩
  simpa [Lit.wf, IntKind.bits, IntKind.signed, IntKind.wrap, IntKind.min, IntKind.max] using hw
theorem typed_bool {n : Nat} {vs : List V} (h : Typed Try.prog (n + 1) 4 vs) : ∃ b, vs = [.bool b] := by
  unfold Typed at h
  rw [Try.underlying4] at h
  exact h
theorem typed_sk {n : Nat} {vs : List V} (h : Typed Try.prog (n + 2) 85 vs) : ∃ x : Sk, vs = x.row := by
  unfold Typed at h
  rw [Try.underlying85] at h
  obtain ⟨hl, hf⟩ := h
  rw [cells85] at hl
  match vs, hl with
  | [a, b], _ =>
    obtain ⟨m, h1, _⟩ := typed_int (hf _ (by simp; exact .inl rfl))
    obtain ⟨o, h2⟩ := typed_bool (hf _ (by simp; exact .inr rfl))
    simp [cells3, cells4] at h1 h2
    exact ⟨⟨m, o⟩, by rw [h1, h2]⟩
theorem typed_rows {n e : Nat} {α : Type} {row : α → List V} (hr : ∀ vs, Typed Try.prog n e vs → ∃ x, vs = row x) : ∀ {els : List (List V)}, (∀ r ∈ els, Typed Try.prog n e r) → ∃ l : List α, els = l.map row
  | [], _ => ⟨[], rfl⟩
  | r :: els, h => by
    obtain ⟨x, hx⟩ := hr r (h r (by simp))
    obtain ⟨l, hl⟩ := typed_rows hr (els := els) fun q hq => h q (by simp [hq])
    exact ⟨x :: l, by rw [hx, hl]; rfl⟩
theorem typed_words {n : Nat} {x : V} (h : Typed Try.prog (n + 3) 72 [x]) : ∃ w : List Sk, x = words w := by
  unfold Typed at h
  rw [Try.underlying72] at h
  obtain ⟨els, he, _, hel⟩ := h
  cases he
  obtain ⟨w, rfl⟩ := typed_rows (n := n + 2) (e := 85) (row := Sk.row) (fun vs h => typed_sk h) fun r hr => (hel r hr).2
  exact ⟨w, rfl⟩
theorem plain72 : plainT Try.prog 4 72 = true := by kernel_rfl
theorem plain3 : plainT Try.prog 4 3 = true := by kernel_rfl
theorem agg72 : isAggB Try.prog 72 = false := by kernel_rfl
theorem agg3 : isAggB Try.prog 3 = false := by kernel_rfl
end Go.Proofs.Ytopjiafdimoeiaa
