/- The place behind some strokes, by the reference, on. -/
import Derived.Test.YtopjiafdimoeiaaWk1
namespace Go.Proofs.Ytopjiafdimoeiaa
open Go Go.Am Go.Proofs
set_option maxRecDepth 100000
/-- Every step has some strokes, but not too many. -/
def okSteps (s : Sq) : Prop := 0 < s.steps.length ∧ s.steps.length ≤ 64 ∧ ∀ t ∈ s.steps, t.sk.length ≤ 6
theorem skOf_at {s : Sq} {i : Nat} (hi : i < s.steps.length) : s.steps[i]? = some s.steps[i] ∧ skOf s i = s.steps[i].sk := by
  have h : s.steps[i]? = some s.steps[i] := List.getElem?_eq_getElem hi
  exact ⟨h, by simp [skOf, h]⟩
def goodP (s : Sq) (p : Place) (k : Nat) : Prop := p.1 ≤ k ∧ p.2.1 < s.steps.length ∧ p.2.2.length ≤ 6
theorem goodP_step {s : Sq} (hs : okSteps s) {p q : Place} {k : Nat} {y : Sk} (hp : goodP s p k) (h : stepP s p y = some q) : goodP s q (k + 1) := by
  obtain ⟨h1, h2, h3⟩ := hp
  unfold stepP at h
  split at h
  · cases h
  · split at h
    · cases h
      unfold nextP
      split
      · obtain ⟨e1, e2⟩ := skOf_at (s := s) (i := 0) hs.1
        exact ⟨by simp only; omega, hs.1, by simp only [e2]; exact hs.2.2 _ (List.getElem_mem hs.1)⟩
      · have hi : p.2.1 + 1 < s.steps.length := by omega
        obtain ⟨e1, e2⟩ := skOf_at (s := s) (i := p.2.1 + 1) hi
        exact ⟨by simp only; omega, hi, by simp only [e2]; exact hs.2.2 _ (List.getElem_mem hi)⟩
    · cases h
      exact ⟨by simp only; omega, h2, Nat.le_trans (minus_len _ _) h3⟩
def I106 (s0 : Sq) (w : List Sk) (n k : Nat) (st : St) : Prop := ∃ c i left, st.h = h106 s0 c i left ∧ goodP s0 (c, i, left) k ∧ noNil st.s ∧ Keep3 w n k st.s ∧ walkP s0 (0, 0, skOf s0 0) (w.take n) = walkP s0 (c, i, left) ((w.take n).drop k)
def Q106 (s0 : Sq) (w : List Sk) (n : Nat) (r : R) : Prop := r.st.s.length = 83 ∧ ((r.x = .exit 0 ∧ ∃ c i left, r.st.h = h106 s0 c i left ∧ getS r.st.s 6 = .bptr 2 0 ∧ getS r.st.s 7 = .bptr 4 0 ∧ walkP s0 (0, 0, skOf s0 0) (w.take n) = some (c, i, left)) ∨
  (r.x = .ret ∧ getS r.st.s 6 = .bptr 2 0 ∧ (∃ a b c d e, r.st.h = [a, b, ⟨0, .box [num 0, num 0, .sl 6 0 0 0 0, .bool false]⟩, c, d, e, ⟨0, .arr 0 []⟩]) ∧ walkP s0 (0, 0, skOf s0 0) (w.take n) = none))
theorem loop106 (s0 : Sq) (hs : okSteps s0) (w : List Sk) (n : Nat) (hn : n ≤ w.length) (hw : w.length < 2 ^ 40) (st : St) (h0 : I106 s0 w n 0 st) : ∃ r, ev pg (.code (.going 5 L106_1) st) = some r ∧ Q106 s0 w n r := by
  refine loop_from (I106 s0 w n) n (Q106 s0 w n) h0 ?_ ?_
  · rintro k ⟨s, h⟩ hk ⟨c, i, left, rfl, hg, hn, ⟨hl, e1, e2, e3, e6, e7, e8⟩, he⟩
    simp only at hl e1 e2 e3 e6 e7 e8
    have hn : ∀ j, getS s j ≠ .nils := noNil_get hn
    have hk' : (k : Int) < n := by omega
    have wk := wrap_id (n := (k : Int) + 1) (by omega) (by omega)
    have hkw : k < w.length := by omega
    have hwk : w[k]? = some w[k] := List.getElem?_eq_getElem hkw
    have hkt : k < (w.take n).length := by simp; omega
    have hget : (w.take n)[k] = w[k] := by simp
    rw [walkP_at hkt, hget] at he
    rw [getS_expand hl]
    simp [L106_1, List.range, List.range.loop, e1, e2, e3, e6, e7, e8, hk', ev_loop, hn]
    generalize hr : ev pg (.code (.going 6 L106_0) _) = o
    obtain ⟨r, rfl, hx, g, m, hh, hnn, ⟨gl, g1, g2, g3, g6, g7, g8⟩, g9⟩ : ∃ r, o = some r ∧ Q106a s0 w n k c i left w[k] r := by
      rw [← hr]
      exact loop106a s0 w n k c i left w[k] hwk hg.2.2 _ (by simp [I106a, minus]; exact ⟨_, _, ⟨rfl, rfl⟩, .inr rfl, by simp [noNil, hn], ⟨rfl, rfl, rfl, rfl, rfl, rfl, rfl⟩, rfl, rfl⟩)
    by_cases hsame : (minus left w[k]).length = left.length
    · have hst : stepP s0 (c, i, left) w[k] = none := by simp [stepP, hsame]
      rw [hst] at he
      simp [hx, hh, gl, g6, g7, g9, hsame, Q106, he]
    · have hne : ¬ (((minus left w[k]).length : Int) = (left.length : Int)) := by omega
      have hci := hg.1
      have hii := hg.2.1
      simp only at hci hii
      have hsl := hs.2.1
      by_cases hnil : minus left w[k] = []
      · have hst : stepP s0 (c, i, left) w[k] = some (nextP s0 c i) := by simp only [stepP]; rw [if_neg hsame, if_pos hnil]
        have hgn := goodP_step hs hg hst
        rw [hst] at he
        have hs0 : left.length ≠ 0 := fun h => hsame (by rw [hnil, h]; rfl)
        have hne0 : ¬ ((0 : Int) = (left.length : Int)) := by omega
        have wi := wrap_id (n := (i : Int) + 1) (by omega) (by omega)
        have wc := wrap_id (n := (c : Int) + 1) (by omega) (by omega)
        rw [hnil] at hh g9
        by_cases hend : i + 1 = s0.steps.length
        · have hend' : (i : Int) + 1 = (s0.steps.length : Int) := by omega
          obtain ⟨q1, q2⟩ := skOf_at (s := s0) (i := 0) hs.1
          have hnx : nextP s0 c i = (c + 1, 0, skOf s0 0) := by simp [nextP, hend]
          rw [hnx] at hgn he
          have wl := wrap_id (n := (s0.steps.length : Int)) (by omega) (by omega)
          simp [hx, hh, gl, g3, g6, g7, g8, g9, hne0, wl, wc, hend', q1, wk]
          refine ⟨c + 1, 0, skOf s0 0, by simp [q2], hgn, ?_, ⟨?_, ?_, ?_, ?_, ?_, ?_, ?_⟩, he⟩
          · apply noNil_scrub
            repeat (first | with_reducible exact hnn | with_reducible refine noNil_set ?_ (by simp))
          all_goals simp [gl, g1, g2, g3, g6, g7]
        · have hend' : ¬ ((i : Int) + 1 = (s0.steps.length : Int)) := by omega
          have hi1 : i + 1 < s0.steps.length := by omega
          obtain ⟨q1, q2⟩ := skOf_at (s := s0) (i := i + 1) hi1
          have hnx : nextP s0 c i = (c, i + 1, skOf s0 (i + 1)) := by simp [nextP, hend]
          rw [hnx] at hgn he
          have hi0 : (0 : Int) ≤ (i : Int) + 1 := by omega
          simp [hx, hh, gl, g3, g6, g7, g8, g9, hne0, wi, hend', q1, wk, hi0]
          refine ⟨c, i + 1, skOf s0 (i + 1), by simp [q2], hgn, ?_, ⟨?_, ?_, ?_, ?_, ?_, ?_, ?_⟩, he⟩
          · apply noNil_scrub
            repeat (first | with_reducible exact hnn | with_reducible refine noNil_set ?_ (by simp))
          all_goals simp [gl, g1, g2, g3, g6, g7]
      · have hst : stepP s0 (c, i, left) w[k] = some (c, i, minus left w[k]) := by simp [stepP, hsame, hnil]
        have hgn := goodP_step hs hg hst
        rw [hst] at he
        have hl0 : ¬ ((minus left w[k]).length = 0) := fun h => hnil (List.length_eq_zero_iff.1 h)
        simp [hx, hh, gl, g3, g6, g7, g8, g9, hsame, hne, hl0, hnil, wk]
        refine ⟨c, i, minus left w[k], by simp, hgn, ?_, ⟨?_, ?_, ?_, ?_, ?_, ?_, ?_⟩, he⟩
        · apply noNil_scrub
          repeat (first | with_reducible exact hnn | with_reducible refine noNil_set ?_ (by simp))
        all_goals simp [gl, g1, g2, g3, g6, g7]
  · rintro ⟨s, h⟩ ⟨c, i, left, rfl, hg, hn, ⟨hl, e1, e2, e3, e6, e7, e8⟩, he⟩
    have hdn : (w.take n).drop n = [] := List.drop_eq_nil_of_le (by rw [List.length_take]; omega)
    rw [hdn] at he
    simp only at hl e1 e2 e3 e6 e7 e8
    rw [getS_expand hl]
    simp [L106_1, Q106, List.range, List.range.loop, e2, e6, e7, e8, he, walkP]
    exact ⟨c, i, left, ⟨rfl, rfl, rfl⟩, rfl, rfl, rfl⟩
end Go.Proofs.Ytopjiafdimoeiaa
