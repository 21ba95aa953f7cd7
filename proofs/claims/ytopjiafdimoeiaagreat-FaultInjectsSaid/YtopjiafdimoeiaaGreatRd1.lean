/- The text of a fault is read back. -/
import Derived.Test.YtopjiafdimoeiaaGreatTe2
namespace Go.Proofs.YtopjiafdimoeiaaGreat
open Go Go.Am Go.Proofs
set_option maxRecDepth 100000
theorem nameE_zero {K : List Txt} {s : Txt} (h : nameE K s = 0) : wordB s = true ∧ s.length ≤ 24 ∧ ¬ s ∈ K := by
  unfold nameE at h
  split at h
  · rename_i h1
    split at h
    · cases h
    · split at h
      · cases h
      · rename_i h2 h3
        exact ⟨h1, by omega, h3⟩
  · cases h
theorem name_good {c : Ct} {A : Nat} (h : Rgt c A) {j : Nat} (h1 : 2 * A ≤ j) (h2 : j < countN c A) : nameE (namesTo c A j) (nameAt c A j) = 0 := by
  unfold countN at h2
  by_cases hj : j < 2 * A + c.inputs.length
  · have h3 := h.inp (j - 2 * A) (by omega)
    rw [show 2 * A + (j - 2 * A) = j by omega] at h3
    exact h3
  · have hi : j - (2 * A + c.inputs.length) < c.signals.length := by omega
    have h3 := h.name (j - (2 * A + c.inputs.length)) _ (List.getElem?_eq_getElem hi)
    have h4 := nameAt_sig c A (j - (2 * A + c.inputs.length)) hi
    rw [show firstN c A + (j - (2 * A + c.inputs.length)) = j by unfold firstN; omega] at h3 h4
    rw [h4]
    exact h3
theorem two_inj {i j : Nat} (hi : i < 12) (hj : j < 12) (h : ([UInt8.ofNat (97 + i / 2), UInt8.ofNat (48 + i % 2)] : Txt) = [UInt8.ofNat (97 + j / 2), UInt8.ofNat (48 + j % 2)]) : i = j := by
  have key : ∀ i : Fin 12, ∀ j : Fin 12, ([UInt8.ofNat (97 + i.val / 2), UInt8.ofNat (48 + i.val % 2)] : Txt) = [UInt8.ofNat (97 + j.val / 2), UInt8.ofNat (48 + j.val % 2)] → i = j := by decide
  have := key ⟨i, hi⟩ ⟨j, hj⟩ h
  exact congrArg Fin.val this
theorem nameAt_lt {c : Ct} {A : Nat} (h : Rgt c A) {i j : Nat} (hij : i < j) (hj : j < countN c A) : nameAt c A i ≠ nameAt c A j := by
  intro he
  have hA6 := h.mid.hi
  by_cases h1 : j < 2 * A
  · unfold nameAt at he
    rw [if_pos h1, if_pos (by omega)] at he
    have := two_inj (by omega) (by omega) he
    omega
  · have h2 := (nameE_zero (name_good h (by omega) hj)).2.2
    apply h2
    unfold namesTo
    exact List.mem_map.2 ⟨i, List.mem_range.2 hij, he⟩
theorem nameAt_inj {c : Ct} {A : Nat} (h : Rgt c A) {i j : Nat} (hi : i < countN c A) (hj : j < countN c A) (he : nameAt c A i = nameAt c A j) : i = j := by
  rcases Nat.lt_trichotomy i j with h1 | h1 | h1
  · exact absurd he (nameAt_lt h h1 hj)
  · exact h1
  · exact absurd he.symm (nameAt_lt h h1 hi)
theorem app_end {x y a b : Txt} (h : x ++ a = y ++ b) (hab : a.length = b.length) : x = y ∧ a = b := by
  have h1 := congrArg List.length h
  rw [List.length_append, List.length_append] at h1
  exact List.append_inj h (by omega)
theorem ends_ne {x y : Txt} : x ++ t2t ≠ y ++ t3t := by
  intro h
  have h1 := congrArg List.reverse h
  simp at h1
theorem letter_ne {i : Nat} (hi : i < 6) {a : Txt} {n s : Txt} : (linet ++ n ++ a) ≠ [UInt8.ofNat (65 + i)] ++ s := by
  intro h
  have h1 := congrArg List.head? h
  rcases (by omega : i = 0 ∨ i = 1 ∨ i = 2 ∨ i = 3 ∨ i = 4 ∨ i = 5) with rfl | rfl | rfl | rfl | rfl | rfl <;> simp at h1
theorem letter_inj {i j : Nat} (hi : i < 6) (hj : j < 6) (h : UInt8.ofNat (65 + i) = UInt8.ofNat (65 + j)) : i = j := by
  have key : ∀ i : Fin 6, ∀ j : Fin 6, UInt8.ofNat (65 + i.val) = UInt8.ofNat (65 + j.val) → i = j := by decide
  exact congrArg Fin.val (key ⟨i, hi⟩ ⟨j, hj⟩ h)
theorem writ_inj {c : Ct} (hfew : c.small = true) {k i k' i' : Int} (h : fltE c k i = 0) (h' : fltE c k' i' = 0) (he : writ c c.act.toNat k i = writ c c.act.toNat k' i') : k = k' ∧ i = i' := by
  obtain ⟨hc, hk, hi0, hiN, hiA⟩ := flt_parts h
  obtain ⟨_, hk', hi0', hiN', hiA'⟩ := flt_parts h'
  have hR := rgt_check hc hfew
  have hA := hR.mid.act
  have hA6 := hR.mid.hi
  obtain ⟨n, rfl⟩ : ∃ n : Nat, i = n := ⟨i.toNat, by omega⟩
  obtain ⟨n', rfl⟩ : ∃ n' : Nat, i' = n' := ⟨i'.toNat, by omega⟩
  unfold writ at he
  simp only [Int.toNat_natCast] at he
  by_cases hl : k = 2 ∨ k = 3
  · have g := hiN hl
    rw [if_pos hl] at he
    by_cases hl' : k' = 2 ∨ k' = 3
    · have g' := hiN' hl'
      rw [if_pos hl'] at he
      have same : ∀ s : Txt, linet ++ nameAt c c.act.toNat n ++ s = linet ++ nameAt c c.act.toNat n' ++ s → n = n' := fun s hs => by
        have h1 := (app_end hs rfl).1
        have h2 := List.append_cancel_left h1
        exact nameAt_inj hR (by omega) (by omega) h2
      rcases hl with rfl | rfl <;> rcases hl' with rfl | rfl
      · exact ⟨rfl, by rw [same _ he]⟩
      · simp only [if_true] at he
        exact absurd he ends_ne
      · exact absurd he.symm ends_ne
      · exact ⟨rfl, by rw [same _ he]⟩
    · rw [if_neg hl'] at he
      have g' := hiA' hl'
      exact absurd he (letter_ne (by omega))
  · have g := hiA hl
    rw [if_neg hl] at he
    by_cases hl' : k' = 2 ∨ k' = 3
    · rw [if_pos hl'] at he
      exact absurd he.symm (letter_ne (by omega))
    · have g' := hiA' hl'
      rw [if_neg hl'] at he
      obtain ⟨h1, h2⟩ := List.cons.inj he
      have h3 := letter_inj (by omega) (by omega) h1
      refine ⟨?_, by rw [h3]⟩
      rcases (by omega : k = 0 ∨ k = 1 ∨ k = 4 ∨ k = 5) with rfl | rfl | rfl | rfl <;> rcases (by omega : k' = 0 ∨ k' = 1 ∨ k' = 4 ∨ k' = 5) with rfl | rfl | rfl | rfl <;> first | rfl | exact absurd h2 (by decide)
theorem mem_all {c : Ct} (hfew : c.small = true) {k i : Int} (h : fltE c k i = 0) : (k, i) ∈ allL c := by
  obtain ⟨hc, hk, hi0, hiN, hiA⟩ := flt_parts h
  have hM := mid_check hc hfew
  have hA := hM.act
  unfold allL
  rw [if_pos hc]
  unfold fupto fkind
  simp only [List.mem_flatMap, List.mem_range, List.mem_map]
  refine ⟨k.toNat, by omega, i.toNat, ?_, by rw [Int.toNat_of_nonneg hk.1, Int.toNat_of_nonneg hi0]⟩
  unfold mostN
  by_cases hl : k = 2 ∨ k = 3
  · have := hiN hl
    rw [if_pos (by omega)]
    omega
  · have := hiA hl
    rw [if_neg (by omega)]
    omega
theorem sufT_len (k : Int) : (sufT k).length ≤ 12 := by
  unfold sufT
  split
  · simp
  · split
    · simp
    · split <;> simp
theorem writ_len {c : Ct} (hfew : c.small = true) (A : Nat) (k i : Int) : (writ c A k i).length ≤ 211 := by
  unfold writ
  split
  · have := nameAt_len (A := A) hfew i.toNat
    split <;> simp <;> omega
  · have := sufT_len k
    simp
    omega
theorem read_back {c : Ct} (hfew : c.small = true) {k i : Int} (h : fltE c k i = 0) : parseV c (textR c k i) = ((k, i), 0) := by
  obtain ⟨hc, _⟩ := flt_parts h
  have hm := mem_all hfew h
  have hl := writ_len hfew c.act.toNat k i
  unfold parseV textR
  rw [if_pos hc, if_pos h, if_neg (by omega)]
  cases hf : (allL c).find? (isT c (writ c c.act.toNat k i)) with
  | none =>
    have h1 := List.find?_eq_none.1 hf _ hm
    exact absurd (by simp [isT]) h1
  | some p =>
    have h1 := List.find?_some hf
    have h2 := all_right hfew (List.mem_of_find?_eq_some hf)
    unfold isT at h1
    obtain ⟨rfl, rfl⟩ := writ_inj hfew h h2 (by rw [beq_iff_eq] at h1; exact h1.symm)
    rfl
end Go.Proofs.YtopjiafdimoeiaaGreat
