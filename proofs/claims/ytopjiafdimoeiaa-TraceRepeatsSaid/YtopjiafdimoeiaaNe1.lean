/- Next and Contains; the law of a stroke behind a beginning. -/
import Derived.Test.YtopjiafdimoeiaaNl1
import Derived.Test.YtopjiafdimoeiaaBe1
namespace Go.Proofs.Ytopjiafdimoeiaa
open Go Go.Am Go.Proofs
set_option maxRecDepth 100000
theorem ev51 (w : List Sk) (y : Sk) (hw : w.length < 2 ^ 62) : ev pg (.call (.fn 51 [] []) [words w, .agg y.row] []) = some { v := .bool (decide (y ∈ w)), st := ⟨[], []⟩ } := by
  obtain ⟨i, hi, hii⟩ := ev101 w y hw
  rw [ev_call, pg51]
  rcases hii with ⟨rfl, hno⟩ | ⟨k, rfl, hk, _⟩
  · simp [ir51, hi, hno]
  · have hy : y ∈ w := List.mem_of_getElem? hk
    have hk0 : (0 : Int) ≤ (k : Int) := by omega
    simp [ir51, hi, hy, hk0]
theorem begErr_giv {s : Sq} {w : List Sk} (h : begErr s w = 0) : givErr s w = 0 := by
  unfold begErr at h
  split at h
  · assumption
  · exact absurd h (by assumption)
theorem ev48 (s0 : Sq) (w : List Sk) (hw : w.length < 2 ^ 40) : (begErr s0 w ≠ 0 ∧ ev pg (.call (.fn 48 [] []) [s0.v, words w] []) = some { v := .tup [words [], num (begErr s0 w)], st := ⟨[], []⟩ }) ∨
    (begErr s0 w = 0 ∧ ∃ full done left, isWalk s0 w w.length full done left ∧ ev pg (.call (.fn 48 [] []) [s0.v, words w] []) = some { v := .tup [words left, num 0], st := ⟨[], []⟩ }) := by
  rcases ev96 s0 w hw with ⟨hb, hc⟩ | ⟨hb, full, done, left, hW, hc⟩
  · left
    refine ⟨hb, ?_⟩
    rw [ev_call, pg48]
    simp [ir48, hc, hb]
  · right
    have hs := okSq_of (givErr_ok (begErr_giv hb)).1
    obtain ⟨la, lr, l6⟩ := hW.left hs
    refine ⟨hb, full, done, left, hW, ?_⟩
    obtain ⟨p, hpm, hpa, h97⟩ := ev97 [⟨0, .box s0.cells⟩, ⟨0, .arr 1 (stepsR (full ++ [done]))⟩, ⟨0, .arr 2 (left.map Sk.row)⟩] 2 0 left (by simp [calm]) rfl (asc_distinct la lr) l6
    obtain rfl := asc_unique hpm hpa la
    simp at h97
    rw [ev_call, pg48]
    simp [ir48, hc, hb, h97]
theorem begErr_14 {s : Sq} {w : List Sk} (hg : givErr s w = 0) (hb : begErr s w ≠ 0) : begErr s w = 14 := by
  unfold begErr at hb ⊢
  rw [if_pos hg] at hb ⊢
  split at hb
  · exact absurd rfl hb
  · rename_i h
    rw [if_neg h]
/-! ### the law -/
theorem ev8 (s0 : Sq) (w : List Sk) (x : Sk) : ∃ r, ev pg (.call (.fn 8 [] []) [s0.v, words w, .agg x.row] []) = some r ∧ r.v = .bool true := by
  have hf := ev46 s0 w
  have hx := ev47 x
  have ha := awake_ev
  rw [ev_call, pg8]
  by_cases h1 : rightSq s0 w = true
  · have h1' := h1
    simp only [rightSq, Bool.and_eq_true, decide_eq_true_eq, beq_iff_eq] at h1'
    obtain ⟨⟨⟨_, h40⟩, hre⟩, hck⟩ := h1'
    by_cases h2 : skErr x = 0
    · have hg : givErr s0 w = 0 := by unfold givErr; rw [if_pos hre]; exact hck
      have hs := okSq_of hre
      have hg2 := givErr_snoc (s := s0) hg h2 h40
      have h47 : (w.length + 1) * 16 ≤ 140737488355328 := by omega
      have h50 := ev50 w (by omega)
      rcases ev49 s0 w (by omega) with ⟨hb, _⟩ | ⟨_, k, full, done, left, hW, h49⟩
      · exact absurd hg hb
      rcases ev49 s0 (w ++ [x]) (by rw [List.length_append, List.length_singleton]; omega) with ⟨hb, _⟩ | ⟨_, k2, full2, done2, left2, hW2, h49'⟩
      · exact absurd hg2 hb
      have hk2 := hW2.len hs
      have hwx : words (w ++ [x]) = .imm (w.map Sk.row ++ [[.int .i64 x.act, .bool x.out]]) := by simp
      rw [hwx, List.length_append, List.length_singleton] at h49'
      rcases ev48 s0 w (by omega) with ⟨hb, h48⟩ | ⟨hb, full3, done3, left3, hW3, h48⟩
      · have hb14 := begErr_14 hg hb
        rw [hb14] at h48
        have hk : k < w.length := by
          have hle := hW.le
          have hall := hW.all hs
          by_cases e : k = w.length
          · rw [if_pos e] at hall
            exact absurd (by simp [begErr, hg, hall]) hb
          · omega
        obtain rfl := isLen_one (isLen_snoc (x := x) (hW.len hs) hk) hk2
        have c1 : (k == w.length) = false := by simp; omega
        have c2 : (k == w.length + 1) = false := by simp; omega
        have c3 : (k : Int) < w.length := by omega
        simp [ev_draw1, exT, chkOk, ir8, hf, hx, ha, h1, h2, h48, h49, h49', h50, h47, c1, c2, c3]
      · have hk : k = w.length := isLen_one (hW.len hs) (hW3.len hs)
        subst hk
        have hk3 := isLen_one (isLen_more hs (x := x) hW3) hk2
        have hl := hW3.rest
        have hl0 : 0 < left3.length := List.length_pos_iff.2 hl
        have hl6 := (hW3.left hs).2.2
        have h51 := ev51 left3 x (by omega)
        by_cases hin : x ∈ left3
        · rw [if_pos hin] at hk3
          subst hk3
          simp [ev_draw1, exT, chkOk, ir8, hf, hx, ha, h1, h2, h48, h49, h49', h50, h47, h51, hl0, hin]
        · rw [if_neg hin] at hk3
          subst hk3
          have c4 : (w.length == w.length + 1) = false := by simp
          simp [ev_draw1, exT, chkOk, ir8, hf, hx, ha, h1, h2, h48, h49, h49', h50, h47, h51, hl0, hin, c4]
    · simp [ir8, hf, hx, ha, h1, h2]
  · simp [ir8, hf, ha, h1]
end Go.Proofs.Ytopjiafdimoeiaa
