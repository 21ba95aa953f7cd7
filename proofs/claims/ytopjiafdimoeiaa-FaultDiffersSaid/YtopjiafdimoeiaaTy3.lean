/- What the arguments of the laws of fault are. -/
import Derived.Test.YtopjiafdimoeiaaRc1
import Derived.Test.YtopjiafdimoeiaaCt1
namespace Go.Proofs.Ytopjiafdimoeiaa
open Go Go.Am Go.Proofs
set_option maxRecDepth 100000
theorem cells3 : Try.prog.cellsOf 3 = 1 := by kernel_rfl
theorem cells4 : Try.prog.cellsOf 4 = 1 := by kernel_rfl
theorem cells9 : Try.prog.cellsOf 9 = 1 := by kernel_rfl
theorem cells22 : Try.prog.cellsOf 22 = 1 := by kernel_rfl
theorem cells23 : Try.prog.cellsOf 23 = 1 := by kernel_rfl
theorem cells24 : Try.prog.cellsOf 24 = 1 := by kernel_rfl
theorem cells26 : Try.prog.cellsOf 26 = 5 := by kernel_rfl
theorem cells28 : Try.prog.cellsOf 28 = 2 := by kernel_rfl
theorem cells59 : Try.prog.cellsOf 59 = 1 := by kernel_rfl
theorem cells61 : Try.prog.cellsOf 61 = 3 := by kernel_rfl
theorem cells63 : Try.prog.cellsOf 63 = 10 := by kernel_rfl
theorem typed_int {n : Nat} {vs : List V} (h : Typed Try.prog n 3 vs) : ∃ m, vs = [num m] := by
  cases n with
  | zero => unfold Typed at h; exact absurd h (by simp)
  | succ n =>
    unfold Typed at h
    rw [Try.underlying3] at h
    obtain ⟨m, rfl, hw⟩ := h
    exact ⟨m, rfl⟩
theorem typed_bool {n : Nat} {vs : List V} (h : Typed Try.prog n 4 vs) : ∃ b, vs = [.bool b] := by
  cases n with
  | zero => unfold Typed at h; exact absurd h (by simp)
  | succ n =>
    unfold Typed at h
    rw [Try.underlying4] at h
    exact h
theorem typed_str {n : Nat} {vs : List V} (h : Typed Try.prog n 9 vs) : ∃ s, vs = [.str s] ∧ s.length ≤ maxLen := by
  cases n with
  | zero => unfold Typed at h; exact absurd h (by simp)
  | succ n =>
    unfold Typed at h
    rw [Try.underlying9] at h
    exact h
theorem typed_rows {n e : Nat} {α : Type} {row : α → List V} (hr : ∀ vs, Typed Try.prog n e vs → ∃ x, vs = row x) : ∀ {els : List (List V)}, (∀ r ∈ els, Typed Try.prog n e r) → ∃ l : List α, els = l.map row
  | [], _ => ⟨[], rfl⟩
  | r :: els, h => by
    obtain ⟨x, hx⟩ := hr r (h r (by simp))
    obtain ⟨l, hl⟩ := typed_rows hr (els := els) fun q hq => h q (by simp [hq])
    exact ⟨x :: l, by rw [hx, hl]; rfl⟩
theorem typed_slice {n t e : Nat} {α : Type} {row : α → List V} (hu : Try.prog.underlying t = some (.slice e)) (hr : ∀ n vs, Typed Try.prog n e vs → ∃ x, vs = row x) {vs : List V} (h : Typed Try.prog n t vs) : ∃ l : List α, vs = [.imm (l.map row)] := by
  cases n with
  | zero => unfold Typed at h; exact absurd h (by simp)
  | succ n =>
    unfold Typed at h
    rw [hu] at h
    obtain ⟨els, he, _, hel⟩ := h
    obtain ⟨l, rfl⟩ := typed_rows (n := n) (e := e) (row := row) (fun vs h => hr n vs h) fun r hr => (hel r hr).2
    exact ⟨l, he⟩
theorem typed_ex : ∀ {n : Nat} {vs : List V}, Typed Try.prog n 61 vs → ∃ x : Ex, vs = x.cells
  | 0, vs, h => by unfold Typed at h; exact absurd h (by simp)
  | 1, vs, h => by
    unfold Typed at h
    rw [Try.underlying61] at h
    obtain ⟨hl, hf⟩ := h
    have h1 := hf _ (by simp; exact .inl rfl)
    unfold Typed at h1
    exact absurd h1 (by simp)
  | n + 2, vs, h => by
    unfold Typed at h
    rw [Try.underlying61] at h
    obtain ⟨hl, hf⟩ := h
    rw [cells61] at hl
    match vs, hl with
    | [a, b, d], _ =>
      have h1 := hf _ (by simp; exact .inl rfl)
      have h2 := hf _ (by simp; exact .inr (.inl rfl))
      have h3 := hf _ (by simp; exact .inr (.inr rfl))
      simp [cells3, cells59] at h1 h2 h3
      obtain ⟨o, h1⟩ := typed_int h1
      obtain ⟨i, h2⟩ := typed_int h2
      unfold Typed at h3
      rw [Try.underlying59] at h3
      obtain ⟨els, he, _, hel⟩ := h3
      obtain ⟨l, rfl⟩ := typed_rows (n := n) (e := 61) (row := Ex.row) (fun vs h => by obtain ⟨x, hx⟩ := typed_ex h; exact ⟨x, by rw [hx, row_eq]⟩) fun r hr => (hel r hr).2
      refine ⟨.mk o i l, ?_⟩
      simp at h1 h2 he
      rw [h1, h2, he]
      rfl
theorem typed_sg {n : Nat} {vs : List V} (h : Typed Try.prog n 63 vs) : ∃ x : Sg, vs = x.row := by
  cases n with
  | zero => unfold Typed at h; exact absurd h (by simp)
  | succ n =>
    unfold Typed at h
    rw [Try.underlying63] at h
    obtain ⟨hl, hf⟩ := h
    rw [cells63] at hl
    match vs, hl with
    | [a0, a1, a2, a3, a4, a5, a6, a7, a8, a9], _ =>
      have h0 := hf _ (by simp; exact .inl rfl)
      have h1 := hf _ (by simp; exact .inr (.inl rfl))
      have h2 := hf _ (by simp; exact .inr (.inr (.inl rfl)))
      have h3 := hf _ (by simp; exact .inr (.inr (.inr (.inl rfl))))
      have h4 := hf _ (by simp; exact .inr (.inr (.inr (.inr (.inl rfl)))))
      have h5 := hf _ (by simp; exact .inr (.inr (.inr (.inr (.inr rfl)))))
      simp [cells3, cells4, cells9, cells61] at h0 h1 h2 h3 h4 h5
      obtain ⟨s, h0, _⟩ := typed_str h0
      obtain ⟨k, h1⟩ := typed_int h1
      obtain ⟨x, h2⟩ := typed_ex h2
      obtain ⟨y, h3⟩ := typed_ex h3
      obtain ⟨d, h4⟩ := typed_int h4
      obtain ⟨b, h5⟩ := typed_bool h5
      simp at h0 h1 h2 h3 h4 h5
      refine ⟨⟨s, k, x, y, d, b⟩, ?_⟩
      simp [h0, h1, h2, h3, h4, h5]
theorem typed_ct {n : Nat} {vs : List V} (h : Typed Try.prog n 26 vs) : ∃ c : Ct, vs = c.cells := by
  cases n with
  | zero => unfold Typed at h; exact absurd h (by simp)
  | succ n =>
    unfold Typed at h
    rw [Try.underlying26] at h
    obtain ⟨hl, hf⟩ := h
    rw [cells26] at hl
    match vs, hl with
    | [a0, a1, a2, a3, a4], _ =>
      have h0 := hf _ (by simp; exact .inl rfl)
      have h1 := hf _ (by simp; exact .inr (.inl rfl))
      have h2 := hf _ (by simp; exact .inr (.inr (.inl rfl)))
      have h3 := hf _ (by simp; exact .inr (.inr (.inr (.inl rfl))))
      have h4 := hf _ (by simp; exact .inr (.inr (.inr (.inr rfl))))
      simp [cells3, cells22, cells23, cells24] at h0 h1 h2 h3 h4
      obtain ⟨a, h0⟩ := typed_int h0
      obtain ⟨i, h1⟩ := typed_slice (row := srow) Try.underlying22 (fun n vs h => by obtain ⟨s, h, _⟩ := typed_str h; exact ⟨s, h⟩) h1
      obtain ⟨g, h2⟩ := typed_slice (row := Sg.row) Try.underlying23 (fun n vs h => typed_sg h) h2
      obtain ⟨p, h3⟩ := typed_slice (row := nrow) Try.underlying24 (fun n vs h => typed_int h) h3
      obtain ⟨q, h4⟩ := typed_slice (row := nrow) Try.underlying24 (fun n vs h => typed_int h) h4
      simp at h0 h1 h2 h3 h4
      refine ⟨⟨a, i, g, p, q⟩, ?_⟩
      simp [h0, h1, h2, h3, h4]
theorem typed_ft {n : Nat} {vs : List V} (h : Typed Try.prog n 28 vs) : ∃ k i : Int, vs = [num k, num i] := by
  cases n with
  | zero => unfold Typed at h; exact absurd h (by simp)
  | succ n =>
    unfold Typed at h
    rw [Try.underlying28] at h
    obtain ⟨hl, hf⟩ := h
    rw [cells28] at hl
    match vs, hl with
    | [a, b], _ =>
      have h1 := hf _ (by simp; exact .inl rfl)
      have h2 := hf _ (by simp; exact .inr rfl)
      simp [cells3] at h1 h2
      obtain ⟨k, h1⟩ := typed_int h1
      obtain ⟨i, h2⟩ := typed_int h2
      simp at h1 h2
      exact ⟨k, i, by rw [h1, h2]⟩
theorem plainF : plainS Try.prog [26, 28, 9, 3, 4, 22, 23, 24, 59, 61, 63] = true := by kernel_rfl
theorem agg26 : isAggB Try.prog 26 = true := by kernel_rfl
theorem agg28 : isAggB Try.prog 28 = true := by kernel_rfl
end Go.Proofs.Ytopjiafdimoeiaa
