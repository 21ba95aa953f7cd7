/- Sequences with words: what is given; what is few. -/
import Derived.Test.YtopjiafdimoeiaaSq7
namespace Go.Proofs.Ytopjiafdimoeiaa
open Go Go.Am Go.Proofs
set_option maxRecDepth 100000
/-! ### few -/
def fewSt (l : List Stp) : Bool := l.all fun t => decide (t.sk.length ≤ 40)
def fewSq (s : Sq) : Bool := decide (s.steps.length ≤ 128) && fewSt s.steps
def I102 (s0 : Sq) (k : Nat) (st : St) : Prop := st.h = [⟨0, .box s0.cells⟩] ∧ st.s.length = 23 ∧ getS st.s 1 = .bptr 0 0 ∧ getS st.s 3 = num k ∧ fewSt s0.steps = fewSt (s0.steps.drop k)
def Q102 (s0 : Sq) (r : R) : Prop := r.st.s.length = 23 ∧ ((r.x = .exit 0 ∧ fewSt s0.steps = true) ∨ (r.x = .ret ∧ getS r.st.s 2 = .bool false ∧ fewSt s0.steps = false))
theorem fewSt_at {w : List Stp} {k : Nat} (hk : k < w.length) : fewSt (w.drop k) = (decide (w[k].sk.length ≤ 40) && fewSt (w.drop (k + 1))) := by
  rw [List.drop_eq_getElem_cons hk]; rfl
theorem loop102 (s0 : Sq) (hw : s0.steps.length ≤ 128) (st : St) (h0 : I102 s0 0 st) : ∃ r, ev pg (.code (.going 1 L102_0) st) = some r ∧ Q102 s0 r := by
  refine loop_from (I102 s0) s0.steps.length (Q102 s0) h0 ?_ ?_
  · rintro k ⟨s, h⟩ hk ⟨rfl, hl, e1, e3, he⟩
    simp only at hl e1 e3
    have hk' : (k : Int) < s0.steps.length := by omega
    have wk := wrap_id (n := (k : Int) + 1) (by omega) (by omega)
    rw [fewSt_at hk] at he
    rw [getS_expand hl]
    by_cases ha : s0.steps[k].sk.length ≤ 40
    · have ha' : ¬ ((40 : Int) < (s0.steps[k].sk.length : Int)) := by omega
      rw [decide_eq_true ha, Bool.true_and] at he
      simp [L102_0, I102, Q102, List.range, List.range.loop, e1, e3, hk, hk', ha', he, wk]
    · have ha' : (40 : Int) < (s0.steps[k].sk.length : Int) := by omega
      rw [decide_eq_false ha, Bool.false_and] at he
      simp [L102_0, I102, Q102, List.range, List.range.loop, e1, e3, hk, hk', ha', he]
  · rintro ⟨s, h⟩ ⟨rfl, hl, e1, e3, he⟩
    simp only [List.drop_length] at hl e1 e3 he
    have he' : fewSt s0.steps = true := he
    rw [getS_expand hl]
    simp [L102_0, Q102, List.range, List.range.loop, e1, e3, he']
theorem ev102 (s0 : Sq) : ev pg (.call (.fn 102 [] []) [s0.v] []) = some { v := .bool (fewSq s0), st := ⟨[], []⟩ } := by
  rw [ev_call, pg102]
  by_cases h : s0.steps.length ≤ 128
  · have h' : ¬ ((128 : Int) < (s0.steps.length : Int)) := by omega
    simp [ir102, fewSq, h, h', ev_loop]
    generalize hr : ev pg (.code (.going 1 L102_0) _) = o
    obtain ⟨r, rfl, hl, hQ⟩ : ∃ r, o = some r ∧ Q102 s0 r := by rw [← hr]; exact loop102 s0 h _ (by simp [I102])
    rcases hQ with ⟨hx, hE⟩ | ⟨hx, h2, hE⟩
    · simp [hx, hl, hE]
    · simp [hx, h2, hE]
  · have h' : (128 : Int) < (s0.steps.length : Int) := by omega
    simp [ir102, fewSq, h, h']
noncomputable def fewSteps (s : Sq) : Bool := fewSq s && (decide (s.steps.length ≤ 12) || refErr s != 0)
theorem ev52 (s0 : Sq) : ev pg (.call (.fn 52 [] []) [s0.v] []) = some { v := .bool (fewSteps s0), st := ⟨[], []⟩ } := by
  have h1 := ev102 s0
  have h2 := ev95 s0
  have c1 : ((s0.steps.length : Int) ≤ 12) ↔ s0.steps.length ≤ 12 := by omega
  rw [ev_call, pg52]
  by_cases h : fewSq s0 = true
  · by_cases h3 : s0.steps.length ≤ 12
    · simp [ir52, fewSteps, h1, h, h3, c1]
    · simp [ir52, fewSteps, h1, h, h3, c1, h2]
  · simp [ir52, fewSteps, h1, h]
/-! ### what is given -/
noncomputable def givErr (s : Sq) (w : List Sk) : Int := if refErr s = 0 then ckErr w else refErr s
theorem ev103 (s0 : Sq) (w : List Sk) (hw : w.length < 2 ^ 62) : ev pg (.call (.fn 103 [] []) [s0.v, words w] []) = some { v := num (givErr s0 w), st := ⟨[], []⟩ } := by
  have h1 := ev95 s0
  have h2 := ev92 w hw
  rw [ev_call, pg103]
  by_cases h : refErr s0 = 0
  · simp [ir103, givErr, h1, h2, h]
  · simp [ir103, givErr, h1, h]
def firstCk : List (List Sk) → Int
  | [] => 0
  | w :: r => if ckErr w = 0 then firstCk r else ckErr w
theorem firstCk_at {l : List (List Sk)} {k : Nat} (hk : k < l.length) : firstCk (l.drop k) = if ckErr l[k] = 0 then firstCk (l.drop (k + 1)) else ckErr l[k] := by
  rw [List.drop_eq_getElem_cons hk]; rfl
abbrev wordsL (l : List (List Sk)) : V := .imm (l.map fun w => [words w])
def I99 (s0 : Sq) (l : List (List Sk)) (k : Nat) (st : St) : Prop := st.h = [⟨0, .box s0.cells⟩] ∧ st.s.length = 26 ∧ getS st.s 14 = wordsL l ∧ getS st.s 15 = num l.length ∧ getS st.s 16 = num k ∧ firstCk l = firstCk (l.drop k)
def Q99 (l : List (List Sk)) (r : R) : Prop := r.st.s.length = 26 ∧ ((r.x = .exit 0 ∧ firstCk l = 0) ∨ (r.x = .ret ∧ getS r.st.s 4 = num (firstCk l)))
theorem loop99 (s0 : Sq) (l : List (List Sk)) (hl2 : l.length ≤ 2) (hw : ∀ w ∈ l, w.length < 2 ^ 62) (st : St) (h0 : I99 s0 l 0 st) : ∃ r, ev pg (.code (.going 1 L99_0) st) = some r ∧ Q99 l r := by
  refine loop_from (I99 s0 l) l.length (Q99 l) h0 ?_ ?_
  · rintro k ⟨s, h⟩ hk ⟨rfl, hl, e14, e15, e16, he⟩
    simp only at hl e14 e15 e16
    have hk' : (k : Int) < l.length := by omega
    have wk := wrap_id (n := (k : Int) + 1) (by omega) (by omega)
    have hc := ev91 l[k] (hw _ (List.getElem_mem hk))
    rw [firstCk_at hk] at he
    rw [getS_expand hl]
    by_cases ha : ckErr l[k] = 0
    · rw [if_pos ha] at he
      simp [L99_0, I99, Q99, List.range, List.range.loop, e14, e15, e16, hk, hk', hc, ha, he, wk]
    · rw [if_neg ha] at he
      simp [L99_0, I99, Q99, List.range, List.range.loop, e14, e15, e16, hk, hk', hc, ha, he]
  · rintro ⟨s, h⟩ ⟨rfl, hl, e14, e15, e16, he⟩
    simp only [List.drop_length] at hl e14 e15 e16 he
    rw [getS_expand hl]
    simp [L99_0, Q99, List.range, List.range.loop, e15, e16, he, firstCk]
noncomputable def givErrL (s : Sq) (l : List (List Sk)) : Int := if refErr s = 0 then firstCk l else refErr s
theorem ev99 (s0 : Sq) (l : List (List Sk)) (hl2 : l.length ≤ 2) (hw : ∀ w ∈ l, w.length < 2 ^ 62) : ev pg (.call (.fn 99 [] []) [s0.v, wordsL l] []) = some { v := num (givErrL s0 l), st := ⟨[], []⟩ } := by
  have h1 := ev140 s0
  rw [seq_agree] at h1
  rw [ev_call, pg99]
  by_cases h : refErr s0 = 0
  · simp [ir99, givErrL, h1, h, ev_loop]
    generalize hr : ev pg (.code (.going 1 L99_0) _) = o
    obtain ⟨r, rfl, hl, hQ⟩ : ∃ r, o = some r ∧ Q99 l r := by rw [← hr]; exact loop99 s0 l hl2 hw _ (by simp [I99])
    rcases hQ with ⟨hx, hE⟩ | ⟨hx, h4⟩
    · simp [hx, hl, hE]
    · simp [hx, h4]
  · simp [ir99, givErrL, h1, h]
/-! ### is a word short and right -/
noncomputable def rightSq (s : Sq) (w : List Sk) : Bool := fewSteps s && decide (w.length ≤ 40) && (refErr s == 0) && (ckErr w == 0)
theorem ev46 (s0 : Sq) (w : List Sk) : ev pg (.call (.fn 46 [] []) [s0.v, words w] []) = some { v := .bool (rightSq s0 w), st := ⟨[], []⟩ } := by
  have h1 := ev52 s0
  have h2 := ev95 s0
  have c1 : ((w.length : Int) ≤ 40) ↔ w.length ≤ 40 := by omega
  rw [ev_call, pg46]
  by_cases a : fewSteps s0 = true
  · by_cases b : w.length ≤ 40
    · have h3 := ev92 w (by omega)
      by_cases c : refErr s0 = 0
      · by_cases d : ckErr w = 0
        · simp [ir46, rightSq, h1, h2, h3, a, b, c, c1, d]
        · simp [ir46, rightSq, h1, h2, h3, a, b, c, c1, d]
      · have c' : (refErr s0 == 0) = false := by simpa using c
        simp [ir46, rightSq, h1, h2, a, b, c', c1]
    · simp [ir46, rightSq, h1, a, b, c1]
  · simp [ir46, rightSq, h1, a]
/-! ### places of strokes -/
def I101 (w : List Sk) (y : Sk) (k : Nat) (st : St) : Prop := st.h = [⟨0, .box y.row⟩] ∧ st.s.length = 19 ∧ getS st.s 0 = words w ∧ getS st.s 3 = .bptr 0 0 ∧ getS st.s 7 = num w.length ∧ getS st.s 8 = num k ∧ ∀ j x, j < k → w[j]? = some x → x ≠ y
def Q101 (w : List Sk) (y : Sk) (r : R) : Prop := r.st.s.length = 19 ∧ ((r.x = .exit 0 ∧ ¬ y ∈ w) ∨ (r.x = .ret ∧ ∃ k : Nat, getS r.st.s 4 = num k ∧ w[k]? = some y ∧ ∀ j x, j < k → w[j]? = some x → x ≠ y))
theorem loop101 (w : List Sk) (y : Sk) (hw : w.length < 2 ^ 62) (st : St) (h0 : I101 w y 0 st) : ∃ r, ev pg (.code (.going 1 L101_0) st) = some r ∧ Q101 w y r := by
  refine loop_from (I101 w y) w.length (Q101 w y) h0 ?_ ?_
  · rintro k ⟨s, h⟩ hk ⟨rfl, hl, e0, e3, e7, e8, he⟩
    simp only at hl e0 e3 e7 e8
    have hk' : (k : Int) < w.length := by omega
    have wk := wrap_id (n := (k : Int) + 1) (by omega) (by omega)
    have hg : w[k]? = some w[k] := List.getElem?_eq_getElem hk
    rw [getS_expand hl]
    by_cases ha : w[k] = y
    · have a1 : w[k].act = y.act := by rw [ha]
      have a2 : w[k].out = y.out := by rw [ha]
      simp [L101_0, I101, Q101, List.range, List.range.loop, e0, e3, e7, e8, hk, hk', a1, a2]
      exact ⟨k, rfl, by rw [hg, ha], he⟩
    · have hnext : ∀ j x, j < k + 1 → w[j]? = some x → x ≠ y := by
        intro j x hj hx
        by_cases hjk : j = k
        · subst hjk; rw [hg] at hx; cases hx; exact ha
        · exact he j x (by omega) hx
      by_cases a1 : y.act = w[k].act
      · have a2 : ¬ y.out = w[k].out := fun h => ha (by
          cases hwk : w[k] with
          | mk a b => cases y; rw [hwk] at a1 h; simp_all)
        have a2' : (y.out == w[k].out) = false := by simpa using a2
        simp [L101_0, I101, Q101, List.range, List.range.loop, e0, e3, e7, e8, hk, hk', a1, a2', wk]
        exact hnext
      · have a1' : (y.act == w[k].act) = false := by simpa using a1
        simp [L101_0, I101, Q101, List.range, List.range.loop, e0, e3, e7, e8, hk, hk', a1', wk]
        exact hnext
  · rintro ⟨s, h⟩ ⟨rfl, hl, e0, e3, e7, e8, he⟩
    simp only at hl e0 e3 e7 e8
    have hno : ¬ y ∈ w := fun hin => by
      obtain ⟨j, hj⟩ := List.mem_iff_getElem?.1 hin
      exact he j y (List.getElem?_eq_some_iff.1 hj).1 hj rfl
    rw [getS_expand hl]
    simp [L101_0, Q101, List.range, List.range.loop, e7, e8, hno]
/-- The first place of a stroke, or -1. -/
theorem ev101 (w : List Sk) (y : Sk) (hw : w.length < 2 ^ 62) : ∃ i : Int, ev pg (.call (.fn 101 [] []) [words w, .agg y.row] []) = some { v := num i, st := ⟨[], []⟩ } ∧ ((i = -1 ∧ ¬ y ∈ w) ∨ ∃ k : Nat, i = k ∧ w[k]? = some y ∧ ∀ j x, j < k → w[j]? = some x → x ≠ y) := by
  rw [ev_call, pg101]
  simp [ir101, ev_loop]
  generalize hr : ev pg (.code (.going 1 L101_0) _) = o
  obtain ⟨r, rfl, hl, hQ⟩ : ∃ r, o = some r ∧ Q101 w y r := by rw [← hr]; exact loop101 w y hw _ (by simp [I101])
  rcases hQ with ⟨hx, hno⟩ | ⟨hx, k, h4, hk, hb⟩
  · simp [hx, hl, hno]
  · refine ⟨k, by simp [hx, h4], .inr ⟨k, rfl, hk, hb⟩⟩
end Go.Proofs.Ytopjiafdimoeiaa
