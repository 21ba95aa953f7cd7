/- What is left of a step, in order; a stroke behind a word. -/
import Derived.Test.YtopjiafdimoeiaaSo1
namespace Go.Proofs.Ytopjiafdimoeiaa
open Go Go.Am Go.Proofs
set_option maxRecDepth 100000
theorem asc_unique : ∀ {p l : List Sk}, p.Perm l → asc p → asc l → p = l
  | [], l, h, _, _ => by
    have := h.length_eq
    exact (List.length_eq_zero_iff.1 (by simpa using this.symm)).symm
  | x :: p, [], h, _, _ => by
    have := h.length_eq
    simp at this
  | x :: p, y :: l, h, hp, hl => by
    obtain ⟨p1, p2⟩ := List.pairwise_cons.1 hp
    obtain ⟨l1, l2⟩ := List.pairwise_cons.1 hl
    have hxy : x = y := by
      rcases List.mem_cons.1 (h.mem_iff.1 (List.mem_cons_self ..)) with e | hx
      · exact e
      · rcases List.mem_cons.1 (h.mem_iff.2 (List.mem_cons_self ..)) with e | hy
        · exact e.symm
        · have h1 := l1 x hx
          have h2 := p1 y hy
          omega
    subst hxy
    rw [asc_unique (List.perm_cons x |>.1 h) p2 l2]
theorem eats_asc : ∀ {d l left : List Sk}, eats l d = some left → asc l → asc left
  | [], l, left, h, hn => by
    simp only [eats, Option.some.injEq] at h
    exact h ▸ hn
  | x :: d, l, left, h, hn => by
    simp only [eats] at h
    split at h
    · exact eats_asc h (List.Pairwise.filter _ hn)
    · cases h
theorem eats_sub : ∀ {d l left : List Sk}, eats l d = some left → (∀ y ∈ left, y ∈ l) ∧ (∀ y ∈ d, y ∈ l)
  | [], l, left, h => by
    simp only [eats, Option.some.injEq] at h
    exact ⟨fun y hy => h ▸ hy, fun _ h => nomatch h⟩
  | x :: d, l, left, h => by
    simp only [eats] at h
    split at h
    · rename_i hx
      obtain ⟨h1, h2⟩ := eats_sub h
      refine ⟨fun y hy => (mem_minus.1 (h1 y hy)).1, fun y hy => ?_⟩
      rcases List.mem_cons.1 hy with rfl | hy
      · exact hx
      · exact (mem_minus.1 (h2 y hy)).1
    · cases h
theorem okSq.asc {s : Sq} (h : okSq s) {i : Nat} (hi : i < s.steps.length) : Go.Proofs.Ytopjiafdimoeiaa.asc (skOf s i) := by
  rw [(skOf_at hi).2]; exact h.pw (List.getElem_mem hi)
theorem okSq.rg {s : Sq} (h : okSq s) {i : Nat} (hi : i < s.steps.length) {y : Sk} (hy : y ∈ skOf s i) : 0 ≤ y.act ∧ y.act < 6 := by
  rw [(skOf_at hi).2] at hy
  obtain ⟨p, h1, h2⟩ := (stepErr_ok (h.er _ (List.getElem_mem hi)).2).2.2.2 y hy
  omega
theorem okSq.six {s : Sq} (h : okSq s) {i : Nat} (hi : i < s.steps.length) : (skOf s i).length ≤ 6 := by
  rw [(skOf_at hi).2]; exact h.st.2.2 _ (List.getElem_mem hi)
theorem asc_distinct {l : List Sk} (h : asc l) (hr : ∀ y ∈ l, 0 ≤ y.act ∧ y.act < 6) : distinct l := by
  refine ⟨fun i j x y hx hy e => ?_, hr⟩
  obtain ⟨hi, e1⟩ := List.getElem?_eq_some_iff.1 hx
  obtain ⟨hj, e2⟩ := List.getElem?_eq_some_iff.1 hy
  have hp := List.pairwise_iff_getElem.1 h
  rcases Nat.lt_trichotomy i j with hlt | he | hlt
  · have := hp i j hi hj hlt
    rw [e1, e2] at this
    omega
  · exact he
  · have := hp j i hj hi hlt
    rw [e1, e2] at this
    omega
theorem isWalk.left {s : Sq} (hs : okSq s) {w : List Sk} {k : Nat} {full : List (List Sk)} {done left : List Sk} (h : isWalk s w k full done left) : asc left ∧ (∀ y ∈ left, 0 ≤ y.act ∧ y.act < 6) ∧ left.length ≤ 6 := by
  have hm := hs.mod full.length
  have h1 := eats_nodup h.part (hs.nodup hm)
  have h2 := hs.six hm
  exact ⟨eats_asc h.part (hs.asc hm), fun y hy => hs.rg hm ((eats_sub h.part).1 y hy), by omega⟩
/-! ### a stroke behind a word -/
theorem walkN_snoc {s : Sq} {w : List Sk} {x : Sk} {j : Nat} (hj : j ≤ w.length) : walkN s (w ++ [x]) j = walkN s w j := by
  unfold walkN
  rw [List.take_append_of_le_length hj]
theorem isLen_snoc {s : Sq} {w : List Sk} {x : Sk} {k : Nat} (h : isLen s w k) (hk : k < w.length) : isLen s (w ++ [x]) k := by
  refine ⟨by rw [List.length_append]; omega, fun j hj => ?_, fun _ => ?_⟩
  · rw [walkN_snoc (by omega)]; exact h.2.1 j hj
  · rw [walkN_snoc hk]; exact h.2.2 hk
theorem walkN_last {s : Sq} (hs : okSq s) {w : List Sk} {x : Sk} {full : List (List Sk)} {done left : List Sk} (h : isWalk s w w.length full done left) : walkN s (w ++ [x]) (w.length + 1) = stepP s (full.length / s.steps.length, full.length % s.steps.length, left) x := by
  have h1 := h.here hs
  unfold walkN at h1 ⊢
  rw [List.take_length] at h1
  rw [List.take_of_length_le (by simp), walkP_append, h1]
  simp only [Option.bind_some, walkP]
  cases stepP s (full.length / s.steps.length, full.length % s.steps.length, left) x <;> rfl
theorem isLen_more {s : Sq} (hs : okSq s) {w : List Sk} {x : Sk} {full : List (List Sk)} {done left : List Sk} (h : isWalk s w w.length full done left) : isLen s (w ++ [x]) (if x ∈ left then w.length + 1 else w.length) := by
  have h1 := walkN_last hs (x := x) h
  have h2 := h.len hs
  have hn := (eats_nodup h.part (hs.nodup (hs.mod _))).1
  by_cases hx : x ∈ left
  · rw [if_pos hx]
    rw [stepP_in hn hx] at h1
    refine ⟨by simp, fun j hj => ?_, fun hk => by simp at hk⟩
    by_cases e : j = w.length + 1
    · subst e
      rw [h1]
      split <;> rfl
    · rw [walkN_snoc (by omega)]
      exact h2.2.1 j (by omega)
  · rw [if_neg hx]
    rw [stepP_out hx] at h1
    refine ⟨by simp, fun j hj => ?_, fun _ => h1⟩
    rw [walkN_snoc hj]
    exact h2.2.1 j hj
theorem firstErr_snoc : ∀ {w : List Sk} {x : Sk}, firstErr w = 0 → skErr x = 0 → firstErr (w ++ [x]) = 0
  | [], x, _, h => by simp [firstErr, h]
  | y :: w, x, h0, h => by
    simp only [firstErr, List.cons_append] at h0 ⊢
    split at h0
    · rename_i hy
      rw [if_pos hy]
      exact firstErr_snoc h0 h
    · rename_i hy
      exact absurd h0 hy
theorem givErr_snoc {s : Sq} {w : List Sk} {x : Sk} (hg : givErr s w = 0) (hx : skErr x = 0) (hw : w.length ≤ 40) : givErr s (w ++ [x]) = 0 := by
  obtain ⟨h1, h2⟩ := givErr_ok hg
  have h3 : firstErr w = 0 := by
    unfold ckErr at h2
    rw [if_neg (by omega)] at h2
    exact h2
  unfold givErr ckErr
  rw [if_pos h1, if_neg (by rw [List.length_append, List.length_singleton]; omega)]
  exact firstErr_snoc h3 hx
end Go.Proofs.Ytopjiafdimoeiaa
