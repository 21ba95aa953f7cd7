/- What a fault touches, by the reference. What a fault touches, by the reference. -/
import Derived.Test.YtopjiafdimoeiaaGreatRp1
/- What a fault touches, by the reference. -/
namespace Go.Proofs.YtopjiafdimoeiaaGreat
open Go Go.Am Go.Proofs
set_option maxRecDepth 100000
def selL (f : Nat → Bool) (b : Int) (n : Nat) : List Int := ((List.range n).filter f).map fun (j : Nat) => b + (j : Int)
theorem selL_succ (f : Nat → Bool) (b : Int) (n : Nat) : selL f b (n + 1) = if f n = true then selL f b n ++ [b + (n : Int)] else selL f b n := by
  unfold selL
  rw [List.range_succ, List.filter_append, List.map_append]
  cases h : f n <;> simp [h]
theorem selL_len (f : Nat → Bool) (b : Int) (n : Nat) : (selL f b n).length ≤ n := by
  unfold selL
  rw [List.length_map]
  exact Nat.le_trans (List.length_filter_le _ _) (by simp)
theorem selL_mem (f : Nat → Bool) (b : Int) (n : Nat) (v : Int) : v ∈ selL f b n ↔ ∃ j : Nat, j < n ∧ f j = true ∧ v = b + (j : Int) := by
  unfold selL
  simp only [List.mem_map, List.mem_filter, List.mem_range]
  constructor
  · rintro ⟨j, ⟨h1, h2⟩, rfl⟩
    exact ⟨j, h1, h2, rfl⟩
  · rintro ⟨j, h1, h2, rfl⟩
    exact ⟨j, ⟨h1, h2⟩, rfl⟩
/-! ### holds -/
def I75 (l : List Int) (n : Int) (k : Nat) (st : St) : Prop := st.h = [] ∧ st.s.length = 18 ∧ getS st.s 0 = ints l ∧ getS st.s 1 = num n ∧ getS st.s 5 = num k ∧ l.any (· == n) = (l.drop k).any (· == n)
def Q75 (l : List Int) (n : Int) (r : R) : Prop := r.st.s.length = 18 ∧ r.st.h = [] ∧ ((r.x = .exit 0 ∧ l.any (· == n) = false) ∨ (r.x = .ret ∧ getS r.st.s 4 = .bool true ∧ l.any (· == n) = true))
/-! ### used -/
def usedF (x : Sg) (k : Nat) : Bool := x.on.occ k || x.off.occ k
structure Keep76 (i : Nat) (st : List V) : Prop where
  nn : noNil st
  len : st.length = 36
  t1 : getS st 1 = num i
  t2 : getS st 2 = .bptr 0 0
abbrev h76 (c : Ct) (g m : Nat) (l : List Int) : H := [⟨0, .box c.cells⟩, ⟨0, .arr 0 []⟩, ⟨g, .arr m (l.map nrow)⟩]
def I76 (c : Ct) (i : Nat) (x : Sg) (k : Nat) (st : St) : Prop := ∃ g m, st.h = h76 c g m (selL (usedF x) 0 k) ∧ (m = 1 ∨ m = 0) ∧ Keep76 i st.s ∧ getS st.s 5 = .sl 2 g m 0 (selL (usedF x) 0 k).length ∧ getS st.s 6 = num k
def Q76 (c : Ct) (A : Nat) (x : Sg) (r : R) : Prop := r.x = .exit 0 ∧ ∃ g m, r.st.h = h76 c g m (selL (usedF x) 0 (countN c A)) ∧ r.st.s.length = 36 ∧ getS r.st.s 5 = .sl 2 g m 0 (selL (usedF x) 0 (countN c A)).length
theorem used_any (x : Sg) (N : Nat) (n : Int) (hn : 0 ≤ n ∧ n < N) : (selL (usedF x) 0 N).any (· == n) = (x.on.occ n || x.off.occ n) := by
  obtain ⟨k, rfl⟩ : ∃ k : Nat, n = k := ⟨n.toNat, by omega⟩
  rw [Bool.eq_iff_iff, List.any_eq_true]
  constructor
  · rintro ⟨v, hv, he⟩
    obtain ⟨j, h1, h2, rfl⟩ := (selL_mem _ _ _ _).1 hv
    have : (j : Int) = k := by simpa using he
    rw [← this]
    exact h2
  · intro h
    exact ⟨k, (selL_mem _ _ _ _).2 ⟨k, by omega, h, by omega⟩, by simp⟩
/-! ### touches -/
def touchF (x : List Sg) (k i : Int) (j : Nat) : Bool := decide (k = 2 ∨ k = 3) && ((x[j]?).map fun x => x.on.occ i || x.off.occ i).getD false
def chgF (c : Ct) (k i : Int) (j : Nat) : Bool := decide (0 ≤ (pil c k i j).1) || decide (0 ≤ (pil c k i j).2)
def touchL (c : Ct) (A : Nat) (k i : Int) : List Int := selL (touchF c.signals k i) (firstN c A) c.signals.length ++ selL (chgF c k i) (countN c A) A
structure Keep18 (st : List V) : Prop where
  nn : noNil st
  len : st.length = 73
  t2 : getS st 2 = .bptr 0 0
  t3 : getS st 3 = .bptr 1 0
abbrev h18 (c : Ct) (k i : Int) (g m : Nat) (l : List Int) : H := [⟨0, .box c.cells⟩, ⟨0, .box [num k, num i]⟩, ⟨0, .arr 0 []⟩, ⟨g, .arr m (l.map nrow)⟩]
def I18a (c : Ct) (A : Nat) (k i : Int) (j : Nat) (st : St) : Prop := ∃ g m, st.h = h18 c k i g m (selL (touchF c.signals k i) (firstN c A) j) ∧ (m = 1 ∨ m = 0) ∧ Keep18 st.s ∧ getS st.s 7 = .sl 3 g m 0 (selL (touchF c.signals k i) (firstN c A) j).length ∧ getS st.s 8 = num j
def Q18a (c : Ct) (A : Nat) (k i : Int) (r : R) : Prop := r.x = .exit 0 ∧ ∃ g m, r.st.h = h18 c k i g m (selL (touchF c.signals k i) (firstN c A) c.signals.length) ∧ (m = 1 ∨ m = 0) ∧ Keep18 r.st.s ∧ getS r.st.s 7 = .sl 3 g m 0 (selL (touchF c.signals k i) (firstN c A) c.signals.length).length
end Go.Proofs.YtopjiafdimoeiaaGreat
/- What a fault touches, by the reference. -/
namespace Go.Proofs.YtopjiafdimoeiaaGreat
open Go Go.Am Go.Proofs
set_option maxRecDepth 100000
structure Keep18b (c : Ct) (A : Nat) (k i : Int) (j : Nat) (st : List V) : Prop where
  nn : noNil st
  len : st.length = 73
  t2 : getS st 2 = .bptr 0 0
  t3 : getS st 3 = .bptr 1 0
  t9 : getS st 9 = faults (pilL c k i A)
  t10 : getS st 10 = num j
def I18b (c : Ct) (A : Nat) (k i : Int) (P : List Int) (j : Nat) (st : St) : Prop := ∃ g m, st.h = h18 c k i g m (P ++ selL (chgF c k i) (countN c A) j) ∧ (m = 1 ∨ m = 0) ∧ Keep18b c A k i j st.s ∧ getS st.s 7 = .sl 3 g m 0 (P ++ selL (chgF c k i) (countN c A) j).length
def Q18b (c : Ct) (A : Nat) (k i : Int) (P : List Int) (r : R) : Prop := r.x = .exit 2 ∧ ∃ g m, r.st.h = h18 c k i g m (P ++ selL (chgF c k i) (countN c A) A) ∧ r.st.s.length = 73 ∧ getS r.st.s 7 = .sl 3 g m 0 (P ++ selL (chgF c k i) (countN c A) A).length
theorem pilL_get (c : Ct) (k i : Int) (A j : Nat) (hj : j < A) : (pilL c k i A)[j]? = some (pil c k i j) := by
  unfold pilL
  rw [List.getElem?_map, List.getElem?_range hj]
  rfl
/-! ### right controls -/
theorem goE_zero {f : Nat → Int} : ∀ {n k : Nat}, goE f k n = 0 → ∀ j, k ≤ j → j < k + n → f j = 0
  | 0, k, _, j, h1, h2 => by omega
  | n + 1, k, h, j, h1, h2 => by
    rw [goE] at h
    by_cases hf : f k = 0
    · rw [if_pos hf] at h
      by_cases hj : j = k
      · rw [hj]; exact hf
      · exact goE_zero h j (by omega) (by omega)
    · rw [if_neg hf] at h
      exact absurd h hf
structure Rgt (c : Ct) (A : Nat) : Prop where
  mid : Mid c A
  plus : c.plus.length = A
  minus : c.minus.length = A
  on : ∀ x ∈ c.signals, x.on.err (countN c A : Nat) = 0
  off : ∀ x ∈ c.signals, x.off.err (countN c A : Nat) = 0 ∨ x.off.zero = true
  name : ∀ i x, c.signals[i]? = some x → nameE (namesTo c A (firstN c A + i)) x.name = 0
  inp : ∀ j, j < c.inputs.length → nameE (namesTo c A (2 * A + j)) (nameAt c A (2 * A + j)) = 0
  pp : c.plus.any (badL (countN c A)) = false
  mm : c.minus.any (badL (countN c A)) = false
theorem rgt_check {c : Ct} (h : c.check = 0) (hfew : c.small = true) : Rgt c c.act.toNat := by
  have hM := mid_check h hfew
  generalize hA : c.act.toNat = A at *
  have h2 : ctE c A = 0 := by
    unfold Ct.check at h
    split at h
    · cases h
    · split at h
      · cases h
      · rw [hA] at h; exact h
  unfold ctE at h2
  split at h2
  · rename_i hi
    split at h2
    · rename_i hs
      have hsig : ∀ i x, c.signals[i]? = some x → sigE c A (namesTo c A (firstN c A + i)) i x = 0 := fun i x hx => by
        have hil : i < c.signals.length := by
          rcases Nat.lt_or_ge i c.signals.length with h | h
          · exact h
          · rw [List.getElem?_eq_none h] at hx; cases hx
        have h3 := goE_zero hs i (by omega) (by omega)
        unfold sigF at h3
        rw [hx] at h3
        exact h3
      unfold pilE at h2
      split at h2
      · cases h2
      · rename_i hpl
        split at h2
        · cases h2
        · rename_i hbad
          refine ⟨hM, by omega, by omega, fun x hx => ?_, fun x hx => ?_, fun i x hx => ?_, fun j hj => goE_zero hi j (by omega) (by omega), ?_, ?_⟩
          · obtain ⟨i, hil, rfl⟩ := List.mem_iff_getElem.1 hx
            have h3 := hsig i _ (List.getElem?_eq_getElem hil)
            unfold sigE at h3
            split at h3
            · split at h3
              · cases h3
              · split at h3
                · rename_i h4; exact check_err h4
                · rename_i h4; exact absurd h3 h4
            · rename_i h4; exact absurd h3 h4
          · obtain ⟨i, hil, rfl⟩ := List.mem_iff_getElem.1 hx
            have h3 := hsig i _ (List.getElem?_eq_getElem hil)
            unfold sigE at h3
            split at h3
            · split at h3
              · cases h3
              · rename_i hkr
                split at h3
                · by_cases hk1 : c.signals[i].kind = 1
                  · refine .inl (check_err ?_)
                    split at h3
                    · rename_i h5; exact absurd h3 h5.2
                    · rename_i h5
                      exact Classical.byContradiction fun hne => h5 ⟨hk1, hne⟩
                  · refine .inr ?_
                    split at h3
                    · rename_i h5; exact absurd h5.1 hk1
                    · split at h3
                      · cases h3
                      · split at h3
                        · cases h3
                        · split at h3
                          · cases h3
                          · rename_i h6
                            cases hz : c.signals[i].off.zero with
                            | true => rfl
                            | false => exact absurd (.inl ⟨hk1, .inl hz⟩) h6
                · rename_i h4; exact absurd h3 h4
            · rename_i h4; exact absurd h3 h4
          · have h3 := hsig i x hx
            unfold sigE at h3
            split at h3
            · rename_i h4; exact h4
            · exact h3
          · cases hb : c.plus.any (badL (countN c A)) with
            | false => rfl
            | true => exact absurd (.inl hb) hbad
          · cases hb : c.minus.any (badL (countN c A)) with
            | false => rfl
            | true => exact absurd (.inr hb) hbad
    · rename_i h4; exact absurd h2 h4
  · rename_i h4; exact absurd h2 h4
def touchR (c : Ct) (k i : Int) : List Int := if fltE c k i = 0 then touchL c c.act.toNat k i else []
theorem flt_parts {c : Ct} {k i : Int} (h : fltE c k i = 0) : c.check = 0 ∧ (0 ≤ k ∧ k < 6) ∧ 0 ≤ i ∧ (k = 2 ∨ k = 3 → i < (countN c c.act.toNat : Nat)) ∧ (¬ (k = 2 ∨ k = 3) → i < c.act) := by
  unfold fltE at h
  split at h
  · rename_i hc
    unfold rightE at h
    by_cases h1 : k < 0 ∨ 6 ≤ k
    · rw [if_pos h1] at h; omega
    · rw [if_neg h1] at h
      by_cases h23 : k = 2 ∨ k = 3
      · rw [if_pos h23] at h
        by_cases h2 : i < 0 ∨ (countN c c.act.toNat : Int) ≤ i
        · rw [if_pos h2] at h; omega
        · exact ⟨hc, by omega, by omega, fun _ => by omega, fun h3 => absurd h23 h3⟩
      · rw [if_neg h23] at h
        by_cases h2 : i < 0 ∨ c.act ≤ i
        · rw [if_pos h2] at h; omega
        · exact ⟨hc, by omega, by omega, fun h3 => absurd h3 h23, fun _ => by omega⟩
  · rename_i hc; exact absurd h hc
end Go.Proofs.YtopjiafdimoeiaaGreat
