/- The walk of the program: a step's strokes are taken from the word. -/
import Derived.Test.YtopjiafdimoeiaaWp1
namespace Go.Proofs.Ytopjiafdimoeiaa
open Go Go.Am Go.Proofs
set_option maxRecDepth 100000
def sl100 (s0 : Sq) (w : List Sk) : List V := [s0.v, words w, .bptr 0 0, .bptr 1 0, .bptr 2 0, .bptr 4 0, .bptr 6 0, .bptr 7 0, .bptr 9 0, .undef, .undef, .undef, .undef, s0.v, .fn 182 [] [.bptr 10 0], .undef, .undef, .undef, .undef, .undef, .undef, .undef, .undef, .undef, .undef, .undef, .undef, .undef, .undef, .undef, .undef, .undef, .undef, .undef, .undef, .undef, .undef, .undef, .undef, .undef, .undef, .undef, .undef, .undef, .undef, .undef, .undef, .undef, .undef, .undef, .undef, .undef, .undef, .undef, .undef, .undef, .undef, .undef, .undef, .undef, .undef]
@[simp] theorem sl100_16 (s0 : Sq) (w : List Sk) : (sl100 s0 w).map (scrub1 16) = sl100 s0 w := by simp [sl100]
@[simp] theorem sl100_14 (s0 : Sq) (w : List Sk) : (sl100 s0 w).map (scrub1 14) = sl100 s0 w := by simp [sl100]
@[simp] theorem sl100_12 (s0 : Sq) (w : List Sk) : (sl100 s0 w).map (scrub1 12) = sl100 s0 w := by simp [sl100]
abbrev stepsR (l : List (List Sk)) : List (List V) := l.map fun d => [words d]
abbrev hB (s0 : Sq) (w : List Sk) (k gs ms : Nat) (steps : List (List Sk)) (a b : C) (p : Option X) (x : H) : H := [⟨0, .box s0.cells⟩, ⟨0, .box [words w]⟩, ⟨0, .box [num 0]⟩, ⟨0, .arr 0 []⟩, ⟨0, .box [.sl 3 0 0 0 0]⟩, ⟨0, .arr 0 []⟩, ⟨0, .box [.sl 5 0 0 0 0]⟩, ⟨0, .box [num k]⟩, ⟨gs, .arr ms (stepsR steps)⟩, ⟨0, .box [.sl 8 gs ms 0 steps.length]⟩, ⟨0, .box s0.cells⟩, ⟨0, .loop (sl100 s0 w) [15] a b p⟩] ++ x
structure Keep100 (st : List V) : Prop where
  nn : noNil st
  len : st.length = 61
  t3 : getS st 3 = .bptr 1 0
  t4 : getS st 4 = .bptr 2 0
  t5 : getS st 5 = .bptr 4 0
  t6 : getS st 6 = .bptr 6 0
  t7 : getS st 7 = .bptr 7 0
  t8 : getS st 8 = .bptr 9 0
/-- What is known in the rounds: how many strokes of the word are gone, what is done, what is left. -/
structure Eat (w : List Sk) (k0 : Nat) (l done left : List Sk) : Prop where
  le : k0 + done.length ≤ w.length
  tk : w.take (k0 + done.length) = w.take k0 ++ done
  eat : eats l done = some left
theorem Eat.snoc {w : List Sk} {k0 : Nat} {l done left : List Sk} (h : Eat w k0 l done left) {y : Sk} (hy : w[k0 + done.length]? = some y) (hm : y ∈ left) : Eat w k0 l (done ++ [y]) (minus left y) := by
  obtain ⟨hlt, he⟩ := List.getElem?_eq_some_iff.1 hy
  refine ⟨by simp only [List.length_append, List.length_singleton]; omega, ?_, eats_snoc h.eat hm⟩
  have e : k0 + (done ++ [y]).length = k0 + done.length + 1 := by simp only [List.length_append, List.length_singleton]; omega
  rw [e, List.take_succ_eq_append_getElem hlt, h.tk, he, List.append_assoc]
abbrev hI (s0 : Sq) (w : List Sk) (k gs ms : Nat) (steps : List (List Sk)) (a b : C) (t : Stp) (g : Nat) (E : List (List V)) (gd md : Nat) (done : List Sk) : H := hB s0 w k gs ms steps a b (some .normal) [⟨0, .arr 0 []⟩, ⟨0, .box t.row⟩, ⟨g, .arr 2 E⟩, ⟨gd, .arr md (done.map Sk.row)⟩]
def I100a (s0 : Sq) (w : List Sk) (k0 gs ms : Nat) (steps : List (List Sk)) (a b : C) (t : Stp) (j : Nat) (st : St) : Prop := ∃ done left g E gd md, st.h = hI s0 w (k0 + j) gs ms steps a b t g E gd md done ∧ done.length = j ∧ Eat w k0 t.sk done left ∧ (md = 2 ∨ md = 0) ∧ rowsE E left ∧ Keep100 st.s ∧ getS st.s 10 = .sl 14 g 2 0 left.length ∧ getS st.s 11 = .sl 15 gd md 0 done.length
def Q100a (s0 : Sq) (w : List Sk) (k0 gs ms : Nat) (steps : List (List Sk)) (a b : C) (t : Stp) (r : R) : Prop := r.x = .exit 2 ∧ ∃ done left g E gd md, r.st.h = hI s0 w (k0 + done.length) gs ms steps a b t g E gd md done ∧ Eat w k0 t.sk done left ∧ rowsE E left ∧ Keep100 r.st.s ∧ getS r.st.s 10 = .sl 14 g 2 0 left.length ∧ getS r.st.s 11 = .sl 15 gd md 0 done.length ∧ (∀ y, w[k0 + done.length]? = some y → ¬ y ∈ left)
theorem calm_hI (s0 : Sq) (w : List Sk) (k gs ms : Nat) (steps : List (List Sk)) (a b : C) (t : Stp) (g : Nat) (E : List (List V)) (gd md : Nat) (done : List Sk) : calm (hI s0 w k gs ms steps a b t g E gd md done) := by
  unfold calm
  simp
theorem loop100a (s0 : Sq) (w : List Sk) (hw : w.length < 2 ^ 40) (k0 gs ms : Nat) (steps : List (List Sk)) (a b : C) (t : Stp) (hnd : t.sk.Nodup) (h6 : t.sk.length ≤ 6) (st : St) (h0 : I100a s0 w k0 gs ms steps a b t 0 st) : ∃ r, ev pg (.code (.going 16 L100_1) st) = some r ∧ Q100a s0 w k0 gs ms steps a b t r := by
  refine loop_from (I100a s0 w k0 gs ms steps a b t) t.sk.length (Q100a s0 w k0 gs ms steps a b t) h0 ?_ ?_
  · rintro j ⟨s, h⟩ hj ⟨done, left, g, E, gd, md, rfl, hdl, he, hm, hE, ⟨hn, hl, e3, e4, e5, e6, e7, e8⟩, e10, e11⟩
    simp only at hl e3 e4 e5 e6 e7 e8 e10 e11
    have hn : ∀ j, getS s j ≠ .nils := noNil_get hn
    obtain ⟨hln, hcount⟩ := eats_nodup he.eat hnd
    have hle := he.le
    rw [hdl] at hle
    have hl0 : left.length ≠ 0 := by omega
    have hl1 : 0 < left.length := by omega
    have wk := wrap_id (n := (k0 : Int) + (j : Int) + 1) (by omega) (by omega)
    rw [getS_expand hl]
    by_cases hk : k0 + j < w.length
    · have hk' : (k0 : Int) + (j : Int) < w.length := by omega
      have hwk : w[k0 + j]? = some w[k0 + j] := List.getElem?_eq_getElem hk
      have hkj : ((k0 : Int) + (j : Int)).toNat = k0 + j := by omega
      have hkj0 : (0 : Int) ≤ (k0 : Int) + (j : Int) := by omega
      obtain ⟨i, hi, hii⟩ := ev101 left w[k0 + j] (by omega)
      have hwin := hE.win
      rcases hii with ⟨rfl, hno⟩ | ⟨q, rfl, hq, _⟩
      · simp [-windowE, L100_1, List.range, List.range.loop, e3, e4, e5, e6, e7, e8, e10, e11, hk', hwk, hl1, hi, hwin, hkj, hkj0]
        exact ⟨rfl, done, left, g, E, gd, md, by rw [hdl]; rfl, he, hE, ⟨by simp [noNil, hn], rfl, rfl, rfl, rfl, rfl, rfl, rfl⟩, rfl, rfl, fun y hy => by rw [hdl, hwk] at hy; cases hy; exact hno⟩
      · have hq0 : ¬ ((q : Int) < 0) := by omega
        have hq' := (List.getElem?_eq_some_iff.1 hq).1
        have wq := wrap_id (n := (q : Int) + 1) (by omega) (by omega)
        have h47 : (done.length + 1) * 16 ≤ 140737488355328 := by omega
        have h142 := ev142 (hI s0 w (k0 + j) gs ms steps a b t g E (gd + 1) 2 (done ++ [w[k0 + j]])) 14 g E left q hq' (by omega) rfl (calm_hI ..) hE
        have hEq := hE.get hq
        simp at h142
        simp [-windowE, -overR, L100_1, List.range, List.range.loop, e3, e4, e5, e6, e7, e8, e10, e11, hk', hwk, hl1, hi, hwin, hkj, hkj0, hq0, hq', hEq, wq, wk, h47, hm, h142]
        have hym := List.mem_of_getElem? hq
        have hlm : left.length - 1 = (minus left w[k0 + j]).length := by
          have := minus_length hln hym
          omega
        exact ⟨done ++ [w[k0 + j]], minus left w[k0 + j], g + 1, delE E left.length q, gd + 1, 2, by simp [Int.add_assoc], by simp [hdl], he.snoc (by rw [hdl]; exact hwk) hym, .inl rfl, by rw [← eraseIdx_minus hln hq]; exact rowsE_del hE hq', ⟨by simp [noNil, hn], rfl, rfl, rfl, rfl, rfl, rfl, rfl⟩, by rw [← hlm]; rfl, by simp⟩
    · have hk' : ¬ ((k0 : Int) + (j : Int) < w.length) := by omega
      simp [-windowE, L100_1, List.range, List.range.loop, e3, e4, e5, e6, e7, e8, e10, e11, hk']
      exact ⟨rfl, done, left, g, E, gd, md, by rw [hdl]; rfl, he, hE, ⟨by simp [noNil, hn], rfl, rfl, rfl, rfl, rfl, rfl, rfl⟩, rfl, rfl, fun y hy => by rw [hdl, List.getElem?_eq_none (by omega)] at hy; cases hy⟩
  · rintro ⟨s, h⟩ ⟨done, left, g, E, gd, md, rfl, hdl, he, hm, hE, ⟨hn, hl, e3, e4, e5, e6, e7, e8⟩, e10, e11⟩
    simp only at hl e3 e4 e5 e6 e7 e8 e10 e11
    have hn : ∀ j, getS s j ≠ .nils := noNil_get hn
    obtain ⟨hln, hcount⟩ := eats_nodup he.eat hnd
    have hl0 : left = [] := List.length_eq_zero_iff.1 (by omega)
    subst hl0
    rw [getS_expand hl]
    by_cases hk' : (k0 : Int) + (t.sk.length : Int) < w.length
    · simp [-windowE, L100_1, List.range, List.range.loop, e3, e4, e5, e6, e7, e8, e10, e11, hk']
      exact ⟨rfl, done, [], g, E, gd, md, by rw [hdl]; rfl, he, hE, ⟨by simp [noNil, hn], rfl, rfl, rfl, rfl, rfl, rfl, rfl⟩, rfl, rfl, fun y hy => by simp⟩
    · simp [-windowE, L100_1, List.range, List.range.loop, e3, e4, e5, e6, e7, e8, e10, e11, hk']
      exact ⟨rfl, done, [], g, E, gd, md, by rw [hdl]; rfl, he, hE, ⟨by simp [noNil, hn], rfl, rfl, rfl, rfl, rfl, rfl, rfl⟩, rfl, rfl, fun y hy => by simp⟩
end Go.Proofs.Ytopjiafdimoeiaa
