/- What a fault touches, by the reference. -/
import Derived.Test.YtopjiafdimoeiaaTo1
namespace Go.Proofs.Ytopjiafdimoeiaa
open Go Go.Am Go.Proofs
set_option maxRecDepth 100000
structure Keep18b (c : Ct) (A : Nat) (k i : Int) (j : Nat) (st : List V) : Prop where
  nn : noNil st
  len : st.length = 73
  t2 : getS st 2 = .bptr 0 0
  t3 : getS st 3 = .bptr 1 0
  t9 : getS st 9 = faults (pilL c k i A)
  t10 : getS st 10 = num j
def I18b (c : Ct) (A : Nat) (k i : Int) (P : List Int) (j : Nat) (st : St) : Prop := ∃ g m, st.h = h18 c k i g m (P ++ selL (chgF c k i) (countN c A) j) ∧ (m = 1 ∨ m = 0) ∧ Keep18b c A k i j st.s ∧ getS st.s 7 = .sl 3 g m 0 (P ++ selL (chgF c k i) (countN c A) j).length
def Q18b (c : Ct) (A : Nat) (k i : Int) (P : List Int) (r : R) : Prop := r.x = .exit 2 ∧ ∃ g m, r.st.h = h18 c k i g m (P ++ selL (chgF c k i) (countN c A) A) ∧ r.st.s.length = 73 ∧ getS r.st.s 7 = .sl 3 g m 0 (P ++ selL (chgF c k i) (countN c A) A).length
theorem pilL_get (c : Ct) (k i : Int) (A j : Nat) (hj : j < A) : (pilL c k i A)[j]? = some (pil c k i j) := by
  unfold pilL
  rw [List.getElem?_map, List.getElem?_range hj]
  rfl
theorem loop18b {c : Ct} {A : Nat} (h : Mid c A) (k i : Int) (P : List Int) (hP : P.length ≤ 200) (st : St) (h0 : I18b c A k i P 0 st) : ∃ r, ev pg (.code (.going 4 L18_1) st) = some r ∧ Q18b c A k i P r := by
  have h37 := ev37 h
  have hA6 := h.hi
  have hcn : countN c A ≤ 172 := by
    obtain ⟨hA, h1, h2, h3, h4⟩ := h
    unfold countN
    omega
  have hpl := pilL_len c k i A
  refine loop_from (I18b c A k i P) A (Q18b c A k i P) h0 ?_ ?_
  · rintro j ⟨s, hh⟩ hj ⟨g, m, rfl, hm, ⟨hnn, hl, e2, e3, e9, e10⟩, e7⟩
    simp only at hl e2 e3 e7 e9 e10
    have hnl : ∀ j, getS s j ≠ .nils := noNil_get hnn
    have wj := wrap_id (n := (j : Int) + 1) (by omega) (by omega)
    have hj' : (j : Int) < A := by omega
    have hget := pilL_get c k i A j hj
    have hlen : (P ++ selL (chgF c k i) (countN c A) j).length ≤ 300 := by
      have := selL_len (chgF c k i) (countN c A) j
      rw [List.length_append]
      omega
    have hsu : P ++ selL (chgF c k i) (countN c A) (j + 1) = if (decide (0 ≤ (pil c k i j).1) || decide (0 ≤ (pil c k i j).2)) = true then (P ++ selL (chgF c k i) (countN c A) j) ++ [(countN c A : Int) + (j : Int)] else P ++ selL (chgF c k i) (countN c A) j := by
      rw [selL_succ, List.append_assoc]
      show P ++ (if (decide (0 ≤ (pil c k i j).1) || decide (0 ≤ (pil c k i j).2)) = true then _ else _) = _
      split <;> rfl
    generalize hp : pil c k i j = p at *
    obtain ⟨x, y⟩ := p
    simp only at hsu
    have hKeep : ∀ st, noNil st → st.length = 73 → getS st 2 = .bptr 0 0 → getS st 3 = .bptr 1 0 → getS st 9 = faults (pilL c k i A) → getS st 10 = num (j + 1 : Nat) → Keep18b c A k i (j + 1) st := fun st a b d e f g => ⟨a, b, d, e, f, g⟩
    unfold I18b
    generalize P ++ selL (chgF c k i) (countN c A) (j + 1) = l' at *
    generalize P ++ selL (chgF c k i) (countN c A) j = l at *
    have h47 : (l.length + 1) * 8 ≤ 140737488355328 := by omega
    generalize countN c A = F at *
    have w2 := wrap_id (n := (F : Int) + (j : Int)) (by omega) (by omega)
    generalize pilL c k i A = pl at *
    rw [getS_expand hl]
    by_cases hx : 0 ≤ x
    · rw [decide_eq_true hx, Bool.true_or, if_pos rfl] at hsu
      simp [L18_1, List.range, List.range.loop, e2, e3, e7, e9, e10, hj', hpl, hget, hx, h37, w2, wj, hm, h47]
      exact ⟨_, _, ⟨rfl, rfl, by rw [hsu]; simp⟩, .inl rfl, hKeep _ (by simp [noNil, hnl]) rfl rfl rfl rfl rfl, rfl, rfl, by rw [hsu]; simp⟩
    · rw [decide_eq_false hx, Bool.false_or] at hsu
      by_cases hy : 0 ≤ y
      · rw [decide_eq_true hy, if_pos rfl] at hsu
        simp [L18_1, List.range, List.range.loop, e2, e3, e7, e9, e10, hj', hpl, hget, hx, hy, h37, w2, wj, hm, h47]
        exact ⟨_, _, ⟨rfl, rfl, by rw [hsu]; simp⟩, .inl rfl, hKeep _ (by simp [noNil, hnl]) rfl rfl rfl rfl rfl, rfl, rfl, by rw [hsu]; simp⟩
      · rw [decide_eq_false hy, if_neg (by simp)] at hsu
        simp [L18_1, List.range, List.range.loop, e2, e3, e7, e9, e10, hj', hpl, hget, hx, hy, wj]
        exact ⟨_, _, ⟨rfl, rfl, by rw [hsu]⟩, hm, hKeep _ (by simp [noNil, hnl]) rfl rfl rfl rfl rfl, rfl, rfl, by rw [hsu]⟩
  · rintro ⟨s, hh⟩ ⟨g, m, rfl, hm, ⟨hnn, hl, e2, e3, e9, e10⟩, e7⟩
    simp only at hl e2 e3 e7 e9 e10
    unfold Q18b
    generalize P ++ selL (chgF c k i) (countN c A) A = l at *
    rw [getS_expand hl]
    simp [L18_1, List.range, List.range.loop, e2, e3, e7, e9, e10, hpl]
/-! ### right controls -/
theorem goE_zero {f : Nat → Int} : ∀ {n k : Nat}, goE f k n = 0 → ∀ j, k ≤ j → j < k + n → f j = 0
  | 0, k, _, j, h1, h2 => by omega
  | n + 1, k, h, j, h1, h2 => by
    rw [goE] at h
    by_cases hf : f k = 0
    · rw [if_pos hf] at h
      by_cases hj : j = k
      · rw [hj]; exact hf
      · exact goE_zero h j (by omega) (by omega)
    · rw [if_neg hf] at h
      exact absurd h hf
structure Rgt (c : Ct) (A : Nat) : Prop where
  mid : Mid c A
  plus : c.plus.length = A
  minus : c.minus.length = A
  on : ∀ x ∈ c.signals, x.on.err (countN c A : Nat) = 0
  off : ∀ x ∈ c.signals, x.off.err (countN c A : Nat) = 0 ∨ x.off.zero = true
  name : ∀ i x, c.signals[i]? = some x → nameE (namesTo c A (firstN c A + i)) x.name = 0
  inp : ∀ j, j < c.inputs.length → nameE (namesTo c A (2 * A + j)) (nameAt c A (2 * A + j)) = 0
  pp : c.plus.any (badL (countN c A)) = false
  mm : c.minus.any (badL (countN c A)) = false
theorem rgt_check {c : Ct} (h : c.check = 0) (hfew : c.small = true) : Rgt c c.act.toNat := by
  have hM := mid_check h hfew
  generalize hA : c.act.toNat = A at *
  have h2 : ctE c A = 0 := by
    unfold Ct.check at h
    split at h
    · cases h
    · split at h
      · cases h
      · rw [hA] at h; exact h
  unfold ctE at h2
  split at h2
  · rename_i hi
    split at h2
    · rename_i hs
      have hsig : ∀ i x, c.signals[i]? = some x → sigE c A (namesTo c A (firstN c A + i)) i x = 0 := fun i x hx => by
        have hil : i < c.signals.length := by
          rcases Nat.lt_or_ge i c.signals.length with h | h
          · exact h
          · rw [List.getElem?_eq_none h] at hx; cases hx
        have h3 := goE_zero hs i (by omega) (by omega)
        unfold sigF at h3
        rw [hx] at h3
        exact h3
      unfold pilE at h2
      split at h2
      · cases h2
      · rename_i hpl
        split at h2
        · cases h2
        · rename_i hbad
          refine ⟨hM, by omega, by omega, fun x hx => ?_, fun x hx => ?_, fun i x hx => ?_, fun j hj => goE_zero hi j (by omega) (by omega), ?_, ?_⟩
          · obtain ⟨i, hil, rfl⟩ := List.mem_iff_getElem.1 hx
            have h3 := hsig i _ (List.getElem?_eq_getElem hil)
            unfold sigE at h3
            split at h3
            · split at h3
              · cases h3
              · split at h3
                · rename_i h4; exact check_err h4
                · rename_i h4; exact absurd h3 h4
            · rename_i h4; exact absurd h3 h4
          · obtain ⟨i, hil, rfl⟩ := List.mem_iff_getElem.1 hx
            have h3 := hsig i _ (List.getElem?_eq_getElem hil)
            unfold sigE at h3
            split at h3
            · split at h3
              · cases h3
              · rename_i hkr
                split at h3
                · by_cases hk1 : c.signals[i].kind = 1
                  · refine .inl (check_err ?_)
                    split at h3
                    · rename_i h5; exact absurd h3 h5.2
                    · rename_i h5
                      exact Classical.byContradiction fun hne => h5 ⟨hk1, hne⟩
                  · refine .inr ?_
                    split at h3
                    · rename_i h5; exact absurd h5.1 hk1
                    · split at h3
                      · cases h3
                      · split at h3
                        · cases h3
                        · split at h3
                          · cases h3
                          · rename_i h6
                            cases hz : c.signals[i].off.zero with
                            | true => rfl
                            | false => exact absurd (.inl ⟨hk1, .inl hz⟩) h6
                · rename_i h4; exact absurd h3 h4
            · rename_i h4; exact absurd h3 h4
          · have h3 := hsig i x hx
            unfold sigE at h3
            split at h3
            · rename_i h4; exact h4
            · exact h3
          · cases hb : c.plus.any (badL (countN c A)) with
            | false => rfl
            | true => exact absurd (.inl hb) hbad
          · cases hb : c.minus.any (badL (countN c A)) with
            | false => rfl
            | true => exact absurd (.inr hb) hbad
    · rename_i h4; exact absurd h2 h4
  · rename_i h4; exact absurd h2 h4
def touchR (c : Ct) (k i : Int) : List Int := if fltE c k i = 0 then touchL c c.act.toNat k i else []
theorem flt_parts {c : Ct} {k i : Int} (h : fltE c k i = 0) : c.check = 0 ∧ (0 ≤ k ∧ k < 6) ∧ 0 ≤ i ∧ (k = 2 ∨ k = 3 → i < (countN c c.act.toNat : Nat)) ∧ (¬ (k = 2 ∨ k = 3) → i < c.act) := by
  unfold fltE at h
  split at h
  · rename_i hc
    unfold rightE at h
    by_cases h1 : k < 0 ∨ 6 ≤ k
    · rw [if_pos h1] at h; omega
    · rw [if_neg h1] at h
      by_cases h23 : k = 2 ∨ k = 3
      · rw [if_pos h23] at h
        by_cases h2 : i < 0 ∨ (countN c c.act.toNat : Int) ≤ i
        · rw [if_pos h2] at h; omega
        · exact ⟨hc, by omega, by omega, fun _ => by omega, fun h3 => absurd h23 h3⟩
      · rw [if_neg h23] at h
        by_cases h2 : i < 0 ∨ c.act ≤ i
        · rw [if_pos h2] at h; omega
        · exact ⟨hc, by omega, by omega, fun h3 => absurd h3 h23, fun _ => by omega⟩
  · rename_i hc; exact absurd h hc
theorem ev18 (c : Ct) (hfew : c.small = true) (k i : Int) : ev pg (.call (.fn 18 [] []) [c.v, fv k i] []) = some { v := .tup [ints (touchR c k i), num (fltE c k i)], st := ⟨[], []⟩ } := by
  have h20 := ev20 c hfew k i
  unfold touchR
  by_cases he : fltE c k i = 0
  · obtain ⟨hc, hk, hi0, hiN, hiA⟩ := flt_parts he
    have hR := rgt_check hc hfew
    have hla := loop18a hR.mid hfew k i hi0 hiN
    have hP := selL_len (touchF c.signals k i) (firstN c c.act.toNat) c.signals.length
    have hsg := hR.mid.sig
    have hlb := loop18b hR.mid k i (selL (touchF c.signals k i) (firstN c c.act.toNat) c.signals.length) (by omega)
    have h78 := ev78 hR.mid hR.plus hR.minus k i hk
    rw [if_pos he]
    unfold touchL
    rw [he] at h20 ⊢
    generalize c.act.toNat = A at *
    have hIa : ∀ st : St, (st.h = h18 c k i 0 0 [] ∧ Keep18 st.s ∧ getS st.s 7 = .sl 3 0 0 0 0 ∧ getS st.s 8 = num 0) → I18a c A k i 0 st := fun st h => ⟨0, 0, h.1, .inr rfl, h.2.1, h.2.2.1, h.2.2.2⟩
    have hIb : ∀ g m, (m = 1 ∨ m = 0) → ∀ st : St, (st.h = h18 c k i g m (selL (touchF c.signals k i) (firstN c A) c.signals.length) ∧ Keep18b c A k i 0 st.s ∧ getS st.s 7 = .sl 3 g m 0 (selL (touchF c.signals k i) (firstN c A) c.signals.length).length) → I18b c A k i (selL (touchF c.signals k i) (firstN c A) c.signals.length) 0 st := fun g m hm st h => ⟨g, m, by rw [h.1]; simp [selL], hm, h.2.1, by rw [h.2.2]; simp [selL]⟩
    unfold Q18a at hla
    unfold Q18b at hlb
    have hKb : ∀ st, noNil st → st.length = 73 → getS st 2 = .bptr 0 0 → getS st 3 = .bptr 1 0 → getS st 9 = faults (pilL c k i A) → getS st 10 = num 0 → Keep18b c A k i 0 st := fun st a b d e f g => ⟨a, b, d, e, f, g⟩
    generalize selL (touchF c.signals k i) (firstN c A) c.signals.length = P at *
    generalize P ++ selL (chgF c k i) (countN c A) A = L at *
    generalize pilL c k i A = pl at *
    rw [ev_call, pg18]
    simp [ir18, h20, ev_loop]
    generalize hr : ev pg (.code (.going 4 L18_0) _) = o
    obtain ⟨r, rfl, hx, g, m, hh, hm, ⟨hrn, hrl, r2, r3⟩, r7⟩ : ∃ r, o = some r ∧ _ := by
      rw [← hr]
      exact hla _ (hIa _ ⟨by simp, ⟨by simp [noNil], by simp, by simp, by simp⟩, by simp, by simp⟩)
    simp (maxDischargeDepth := 9) [hx, hh, hrl, r2, r3, h78, adopt_none, noNil_set, hrn]
    generalize hr' : ev pg (.code (.going 4 L18_1) _) = o
    obtain ⟨q, rfl, hqx, g', m', hqh, hql, q7⟩ : ∃ r, o = some r ∧ _ := by
      rw [← hr']
      exact hlb _ (hIb g m hm _ ⟨rfl, hKb _ (by simp (maxDischargeDepth := 9) [noNil_set, hrn]) (by simp [hrl]) (by simp [r2]) (by simp [r3]) (by simp [hrl]) (by simp [hrl]), by simp [r7]⟩)
    simp [hqx, hqh, hql, q7]
  · rw [if_neg he]
    generalize fltE c k i = e at *
    rw [ev_call, pg18]
    simp [ir18, h20, he]
end Go.Proofs.Ytopjiafdimoeiaa
