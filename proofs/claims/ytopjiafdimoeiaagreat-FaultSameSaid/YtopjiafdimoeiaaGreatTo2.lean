/- What a fault touches, by the reference. What a fault touches, by the reference. -/
import Derived.Test.YtopjiafdimoeiaaGreatRp1
/- What a fault touches, by the reference. -/
namespace Go.Proofs.YtopjiafdimoeiaaGreat
open Go Go.Am Go.Proofs
set_option maxRecDepth 100000
def selL (f : Nat → Bool) (b : Int) (n : Nat) : List Int := ((List.range n).filter f).map fun (j : Nat) => b + (j : Int)
theorem selL_succ (f : Nat → Bool) (b : Int) (n : Nat) : selL f b (n + 1) = if f n = true then selL f b n ++ [b + (n : Int)] else selL f b n := by
  unfold selL
  rw [List.range_succ, List.filter_append, List.map_append]
  cases h : f n <;> simp [h]
theorem selL_len (f : Nat → Bool) (b : Int) (n : Nat) : (selL f b n).length ≤ n := by
  unfold selL
  rw [List.length_map]
  exact Nat.le_trans (List.length_filter_le _ _) (by simp)
/-! ### holds -/
/-! ### used -/
/-! ### touches -/
def touchF (x : List Sg) (k i : Int) (j : Nat) : Bool := decide (k = 2 ∨ k = 3) && ((x[j]?).map fun x => x.on.occ i || x.off.occ i).getD false
def chgF (c : Ct) (k i : Int) (j : Nat) : Bool := decide (0 ≤ (pil c k i j).1) || decide (0 ≤ (pil c k i j).2)
def touchL (c : Ct) (A : Nat) (k i : Int) : List Int := selL (touchF c.signals k i) (firstN c A) c.signals.length ++ selL (chgF c k i) (countN c A) A
abbrev h18 (c : Ct) (k i : Int) (g m : Nat) (l : List Int) : H := [⟨0, .box c.cells⟩, ⟨0, .box [num k, num i]⟩, ⟨0, .arr 0 []⟩, ⟨g, .arr m (l.map nrow)⟩]
end Go.Proofs.YtopjiafdimoeiaaGreat
/- What a fault touches, by the reference. -/
namespace Go.Proofs.YtopjiafdimoeiaaGreat
open Go Go.Am Go.Proofs
set_option maxRecDepth 100000
theorem pilL_get (c : Ct) (k i : Int) (A j : Nat) (hj : j < A) : (pilL c k i A)[j]? = some (pil c k i j) := by
  unfold pilL
  rw [List.getElem?_map, List.getElem?_range hj]
  rfl
/-! ### right controls -/
theorem goE_zero {f : Nat → Int} : ∀ {n k : Nat}, goE f k n = 0 → ∀ j, k ≤ j → j < k + n → f j = 0
  | 0, k, _, j, h1, h2 => by omega
  | n + 1, k, h, j, h1, h2 => by
    rw [goE] at h
    by_cases hf : f k = 0
    · rw [if_pos hf] at h
      by_cases hj : j = k
      · rw [hj]; exact hf
      · exact goE_zero h j (by omega) (by omega)
    · rw [if_neg hf] at h
      exact absurd h hf
structure Rgt (c : Ct) (A : Nat) : Prop where
  mid : Mid c A
  plus : c.plus.length = A
  minus : c.minus.length = A
  on : ∀ x ∈ c.signals, x.on.err (countN c A : Nat) = 0
  off : ∀ x ∈ c.signals, x.off.err (countN c A : Nat) = 0 ∨ x.off.zero = true
  name : ∀ i x, c.signals[i]? = some x → nameE (namesTo c A (firstN c A + i)) x.name = 0
  inp : ∀ j, j < c.inputs.length → nameE (namesTo c A (2 * A + j)) (nameAt c A (2 * A + j)) = 0
  pp : c.plus.any (badL (countN c A)) = false
  mm : c.minus.any (badL (countN c A)) = false
theorem rgt_check {c : Ct} (h : c.check = 0) (hfew : c.small = true) : Rgt c c.act.toNat := by
  have hM := mid_check h hfew
  generalize hA : c.act.toNat = A at *
  have h2 : ctE c A = 0 := by
    unfold Ct.check at h
    split at h
    · cases h
    · split at h
      · cases h
      · rw [hA] at h; exact h
  unfold ctE at h2
  split at h2
  · rename_i hi
    split at h2
    · rename_i hs
      have hsig : ∀ i x, c.signals[i]? = some x → sigE c A (namesTo c A (firstN c A + i)) i x = 0 := fun i x hx => by
        have hil : i < c.signals.length := by
          rcases Nat.lt_or_ge i c.signals.length with h | h
          · exact h
          · rw [List.getElem?_eq_none h] at hx; cases hx
        have h3 := goE_zero hs i (by omega) (by omega)
        unfold sigF at h3
        rw [hx] at h3
        exact h3
      unfold pilE at h2
      split at h2
      · cases h2
      · rename_i hpl
        split at h2
        · cases h2
        · rename_i hbad
          refine ⟨hM, by omega, by omega, fun x hx => ?_, fun x hx => ?_, fun i x hx => ?_, fun j hj => goE_zero hi j (by omega) (by omega), ?_, ?_⟩
          · obtain ⟨i, hil, rfl⟩ := List.mem_iff_getElem.1 hx
            have h3 := hsig i _ (List.getElem?_eq_getElem hil)
            unfold sigE at h3
            split at h3
            · split at h3
              · cases h3
              · split at h3
                · rename_i h4; exact check_err h4
                · rename_i h4; exact absurd h3 h4
            · rename_i h4; exact absurd h3 h4
          · obtain ⟨i, hil, rfl⟩ := List.mem_iff_getElem.1 hx
            have h3 := hsig i _ (List.getElem?_eq_getElem hil)
            unfold sigE at h3
            split at h3
            · split at h3
              · cases h3
              · rename_i hkr
                split at h3
                · by_cases hk1 : c.signals[i].kind = 1
                  · refine .inl (check_err ?_)
                    split at h3
                    · rename_i h5; exact absurd h3 h5.2
                    · rename_i h5
                      exact Classical.byContradiction fun hne => h5 ⟨hk1, hne⟩
                  · refine .inr ?_
                    split at h3
                    · rename_i h5; exact absurd h5.1 hk1
                    · split at h3
                      · cases h3
                      · split at h3
                        · cases h3
                        · split at h3
                          · cases h3
                          · rename_i h6
                            cases hz : c.signals[i].off.zero with
                            | true => rfl
                            | false => exact absurd (.inl ⟨hk1, .inl hz⟩) h6
                · rename_i h4; exact absurd h3 h4
            · rename_i h4; exact absurd h3 h4
          · have h3 := hsig i x hx
            unfold sigE at h3
            split at h3
            · rename_i h4; exact h4
            · exact h3
          · cases hb : c.plus.any (badL (countN c A)) with
            | false => rfl
            | true => exact absurd (.inl hb) hbad
          · cases hb : c.minus.any (badL (countN c A)) with
            | false => rfl
            | true => exact absurd (.inr hb) hbad
    · rename_i h4; exact absurd h2 h4
  · rename_i h4; exact absurd h2 h4
def touchR (c : Ct) (k i : Int) : List Int := if fltE c k i = 0 then touchL c c.act.toNat k i else []
theorem flt_parts {c : Ct} {k i : Int} (h : fltE c k i = 0) : c.check = 0 ∧ (0 ≤ k ∧ k < 6) ∧ 0 ≤ i ∧ (k = 2 ∨ k = 3 → i < (countN c c.act.toNat : Nat)) ∧ (¬ (k = 2 ∨ k = 3) → i < c.act) := by
  unfold fltE at h
  split at h
  · rename_i hc
    unfold rightE at h
    by_cases h1 : k < 0 ∨ 6 ≤ k
    · rw [if_pos h1] at h; omega
    · rw [if_neg h1] at h
      by_cases h23 : k = 2 ∨ k = 3
      · rw [if_pos h23] at h
        by_cases h2 : i < 0 ∨ (countN c c.act.toNat : Int) ≤ i
        · rw [if_pos h2] at h; omega
        · exact ⟨hc, by omega, by omega, fun _ => by omega, fun h3 => absurd h23 h3⟩
      · rw [if_neg h23] at h
        by_cases h2 : i < 0 ∨ c.act ≤ i
        · rw [if_pos h2] at h; omega
        · exact ⟨hc, by omega, by omega, fun h3 => absurd h3 h23, fun _ => by omega⟩
  · rename_i hc; exact absurd h hc
end Go.Proofs.YtopjiafdimoeiaaGreat
