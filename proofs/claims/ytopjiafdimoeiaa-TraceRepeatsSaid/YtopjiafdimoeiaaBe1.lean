/- Begins and Cycles; the law. -/
import Derived.Test.YtopjiafdimoeiaaWp4
import Derived.Test.YtopjiafdimoeiaaTr5
namespace Go.Proofs.Ytopjiafdimoeiaa
open Go Go.Am Go.Proofs
set_option maxRecDepth 100000
theorem givL_one (s : Sq) (w : List Sk) : givErrL s [w] = givErr s w := by
  unfold givErrL givErr firstCk firstCk
  split
  · split
    · rename_i h; exact h.symm
    · rfl
  · rfl
theorem ev99_one (s0 : Sq) (w : List Sk) (hw : w.length < 2 ^ 62) : ev pg (.call (.fn 99 [] []) [s0.v, .imm [[words w]]] []) = some { v := num (givErr s0 w), st := ⟨[], []⟩ } := by
  have := ev99 s0 [w] (by simp) (by simpa using hw)
  rw [givL_one] at this
  exact this
theorem ev49 (s0 : Sq) (w : List Sk) (hw : w.length < 2 ^ 40) : (givErr s0 w ≠ 0 ∧ ev pg (.call (.fn 49 [] []) [s0.v, words w] []) = some { v := .tup [.bool false, num 0, num (givErr s0 w)], st := ⟨[], []⟩ }) ∨
    (givErr s0 w = 0 ∧ ∃ k full done left, isWalk s0 w k full done left ∧ ev pg (.call (.fn 49 [] []) [s0.v, words w] []) = some { v := .tup [.bool (k == w.length), num k, num 0], st := ⟨[], []⟩ }) := by
  have hg := ev99_one s0 w (by omega)
  by_cases h : givErr s0 w = 0
  · right
    obtain ⟨k, full, done, left, hW, hc⟩ := ev100 s0 (okSq_of (givErr_ok h).1) w hw
    refine ⟨h, k, full, done, left, hW, ?_⟩
    have hkk : ((k : Int) == (w.length : Int)) = (k == w.length) := by
      rw [Bool.eq_iff_iff]
      simp only [beq_iff_eq]
      omega
    rw [ev_call, pg49]
    simp [ir49, hg, h, hc, hkk]
  · left
    refine ⟨h, ?_⟩
    rw [ev_call, pg49]
    simp [ir49, hg, h]
/-- What the program's begins hands back. -/
theorem ev96 (s0 : Sq) (w : List Sk) (hw : w.length < 2 ^ 40) : (begErr s0 w ≠ 0 ∧ ev pg (.call (.fn 96 [] []) [s0.v, words w] []) = some { v := .tup [.nils, .nils, num (begErr s0 w)], st := ⟨[], []⟩ }) ∨
    (begErr s0 w = 0 ∧ ∃ full done left, isWalk s0 w w.length full done left ∧ ev pg (.call (.fn 96 [] []) [s0.v, words w] []) = some { v := .tup [.sl 0 0 1 0 (full ++ [done]).length, .sl 1 0 2 0 left.length, num 0], st := ⟨[], [⟨0, .arr 1 (stepsR (full ++ [done]))⟩, ⟨0, .arr 2 (left.map Sk.row)⟩]⟩ }) := by
  have hg := ev99_one s0 w (by omega)
  by_cases h : givErr s0 w = 0
  · have hs := okSq_of (givErr_ok h).1
    obtain ⟨k, full, done, left, hW, hc⟩ := ev100 s0 hs w hw
    have hall := hW.all hs
    have hle := hW.le
    by_cases hk : k = w.length
    · right
      rw [if_pos hk] at hall
      have hb : begErr s0 w = 0 := by simp [begErr, h, hall]
      subst hk
      refine ⟨hb, full, done, left, hW, ?_⟩
      rw [ev_call, pg96]
      simp [ir96, hg, h, hc, moveVs, moveV, move1]
    · left
      rw [if_neg hk] at hall
      have hb : begErr s0 w = 14 := by simp [begErr, h, hall]
      rw [hb]
      refine ⟨by omega, ?_⟩
      have hk' : (k : Int) < w.length := by omega
      rw [ev_call, pg96]
      simp [ir96, hg, h, hc, hk', moveVs, moveV, move1]
  · left
    have hb : begErr s0 w = givErr s0 w := by simp [begErr, h]
    rw [hb]
    refine ⟨h, ?_⟩
    rw [ev_call, pg96]
    simp [ir96, hg, h, moveVs, moveV, move1]
/-! ### cycles -/
def I54 (s0 : Sq) (w : List Sk) (x : H) (k : Nat) (st : St) : Prop := st.h = x ∧ st.s.length = 44 ∧ noNil st.s ∧ getS st.s 1 = words w ∧ getS st.s 10 = num (upTo s0 k) ∧ getS st.s 24 = .imm (s0.steps.map Stp.row) ∧ getS st.s 25 = num s0.steps.length ∧ getS st.s 26 = num k
def Q54 (s0 : Sq) (w : List Sk) (r : R) : Prop := r.x = .exit 0 ∧ r.st.s.length = 44 ∧ getS r.st.s 1 = words w ∧ getS r.st.s 10 = num (firstW s0.steps).length
abbrev x54 (s0 : Sq) (full : List (List Sk)) (left : List Sk) : H := [⟨0, .box s0.cells⟩, ⟨0, .arr 1 (stepsR full)⟩, ⟨0, .arr 2 (left.map Sk.row)⟩]
theorem upTo_few {s : Sq} (hs : okSq s) {i : Nat} (hi : i ≤ s.steps.length) : upTo s i ≤ 384 := by
  have h1 := upTo_mono hi (Nat.le_refl _)
  have h2 := firstW_len (l := s.steps) hs.st.2.2
  have h3 := hs.st.2.1
  rw [upTo_all] at h1
  omega
theorem loop54 (s0 : Sq) (hs : okSq s0) (w : List Sk) (full : List (List Sk)) (left : List Sk) (st : St) (h0 : I54 s0 w (x54 s0 full left) 0 st) : ∃ r, ev pg (.code (.going 3 L54_0) st) = some r ∧ Q54 s0 w r := by
  refine loop_from (I54 s0 w (x54 s0 full left)) s0.steps.length (Q54 s0 w) h0 ?_ ?_
  · rintro i ⟨s, h⟩ hi ⟨rfl, hl, hn, e1, e10, e24, e25, e26⟩
    simp only at hl e1 e10 e24 e25 e26
    have hn : ∀ j, getS s j ≠ .nils := noNil_get hn
    have hsl := hs.st.2.1
    have hi' : (i : Int) < s0.steps.length := by omega
    have wk := wrap_id (n := (i : Int) + 1) (by omega) (by omega)
    obtain ⟨q1, q2⟩ := skOf_at hi
    have hu := upTo_succ hi
    rw [q2] at hu
    have hf := upTo_few hs (i := i + 1) (by omega)
    have wu := wrap_id (n := (upTo s0 i : Int) + (s0.steps[i].sk.length : Int)) (by omega) (by omega)
    have hu' : ((upTo s0 (i + 1) : Nat) : Int) = (upTo s0 i : Int) + (s0.steps[i].sk.length : Int) := by rw [hu]; rfl
    rw [getS_expand hl]
    simp [L54_0, I54, List.range, List.range.loop, e1, e10, e24, e25, e26, hi, hi', q1, wk, wu, hu']
    simp [noNil, hn]
  · rintro ⟨s, h⟩ ⟨rfl, hl, hn, e1, e10, e24, e25, e26⟩
    simp only at hl e1 e10 e24 e25 e26
    rw [upTo_all] at e10
    rw [getS_expand hl]
    simp [L54_0, Q54, List.range, List.range.loop, e1, e10, e24, e25, e26]
theorem first_pos {s : Sq} (hs : okSq s) : 0 < (firstW s.steps).length := by
  have h1 := upTo_succ (s := s) (i := 0) hs.st.1
  have h2 := upTo_mono (s := s) (i := 0 + 1) (j := s.steps.length) hs.st.1 (Nat.le_refl _)
  rw [upTo_all] at h2
  have h3 : (skOf s 0).length ≠ 0 := fun e => hs.ne hs.st.1 (List.length_eq_zero_iff.1 e)
  omega
theorem ev54 (s0 : Sq) (w : List Sk) (hw : w.length < 2 ^ 40) : (begErr s0 w ≠ 0 ∧ ev pg (.call (.fn 54 [] []) [s0.v, words w] []) = some { v := .tup [num 0, num 0, num (begErr s0 w)], st := ⟨[], []⟩ }) ∨
    (begErr s0 w = 0 ∧ ev pg (.call (.fn 54 [] []) [s0.v, words w] []) = some { v := .tup [num (w.length / (firstW s0.steps).length : Nat), num (w.length % (firstW s0.steps).length : Nat), num 0], st := ⟨[], []⟩ }) := by
  rcases ev96 s0 w hw with ⟨hb, hc⟩ | ⟨hb, full, done, left, hW, hc⟩
  · left
    refine ⟨hb, ?_⟩
    rw [ev_call, pg54]
    simp [ir54, hc, hb]
  · right
    refine ⟨hb, ?_⟩
    have hs : okSq s0 := by
      refine okSq_of (givErr_ok (w := w) ?_).1
      unfold begErr at hb
      split at hb
      · assumption
      · exact absurd hb (by assumption)
    have hp := first_pos hs
    rw [ev_call, pg54]
    simp [ir54, hc, hb, ev_loop]
    generalize hr : ev pg (.code (.going 3 L54_0) _) = o
    obtain ⟨r, rfl, hx, hl, h1, h10⟩ : ∃ r, o = some r ∧ Q54 s0 w r := by
      rw [← hr]
      exact loop54 s0 hs w (full ++ [done]) left _ (by simp [I54, noNil, upTo, firstW])
    have hp0 : (firstW s0.steps).length ≠ 0 := by omega
    have wq : ∀ q : Nat, q ≤ w.length → IntKind.i64.wrap (q : Int) = q := fun q hq => wrap_id (by omega) (by omega)
    have wq := wq _ (Nat.div_le_self w.length (firstW s0.steps).length)
    have t1 : (w.length : Int).tdiv ((firstW s0.steps).length : Int) = ((w.length / (firstW s0.steps).length : Nat) : Int) := rfl
    have t2 : (w.length : Int).tmod ((firstW s0.steps).length : Int) = ((w.length % (firstW s0.steps).length : Nat) : Int) := rfl
    simp [hx, hl, h1, h10, hp0, t1, t2]
    exact wq
theorem ev55 (s0 : Sq) (w : List Sk) (hw : w.length < 2 ^ 40) : (begErr s0 w ≠ 0 ∧ ev pg (.call (.fn 55 [] []) [s0.v, words w] []) = some { v := .tup [num 0, num 0, num (begErr s0 w)], st := ⟨[], []⟩ }) ∨
    (begErr s0 w = 0 ∧ ev pg (.call (.fn 55 [] []) [s0.v, words w] []) = some { v := .tup [num (w.length / (firstW s0.steps).length : Nat), num (w.length % (firstW s0.steps).length : Nat), num 0], st := ⟨[], []⟩ }) := by
  have hg := ev105 s0 w hw
  by_cases hb : begErr s0 w = 0
  · right
    refine ⟨hb, ?_⟩
    have hs : okSq s0 := by
      refine okSq_of (givErr_ok (w := w) ?_).1
      unfold begErr at hb
      split at hb
      · assumption
      · exact absurd hb (by assumption)
    rcases ev96 s0 w hw with ⟨hb', hc⟩ | ⟨_, full, done, left, hW, _⟩
    · exact absurd hb hb'
    have hall := hW.here hs
    have hw106 := ev106 s0 hs.st w w.length (Nat.le_refl _) hw
    rw [hall] at hw106
    simp only [folV] at hw106
    have h63 := ev63 s0 hs.st
    obtain ⟨q, hq, hq2, _⟩ := hW.count hs
    have hp := first_pos hs
    have hdiv : w.length / (firstW s0.steps).length = full.length / s0.steps.length := by
      conv => lhs; rw [hq]
      rw [Nat.mul_comm, Nat.mul_add_div hp, Nat.div_eq_of_lt hq2, Nat.add_zero]
    have hmod : w.length % (firstW s0.steps).length = q := by
      conv => lhs; rw [hq]
      rw [Nat.mul_comm, Nat.mul_add_mod, Nat.mod_eq_of_lt hq2]
    rw [hdiv, hmod]
    have hprod : ((full.length / s0.steps.length : Nat) : Int) * ((firstW s0.steps).length : Int) = ((full.length / s0.steps.length * (firstW s0.steps).length : Nat) : Int) := by rw [Int.natCast_mul]
    have w1 := wrap_id (n := ((full.length / s0.steps.length : Nat) : Int) * ((firstW s0.steps).length : Int)) (by rw [hprod]; omega) (by rw [hprod]; omega)
    have w2 : (w.length : Int) - ((full.length / s0.steps.length : Nat) : Int) * ((firstW s0.steps).length : Int) = (q : Int) := by rw [hprod]; omega
    have w3 := wrap_id (n := (q : Int)) (by omega) (by omega)
    generalize full.length / s0.steps.length = c at *
    rw [ev_call, pg55]
    simp [ir55, hg, hb, hw106, h63, w1, w2, w3]
  · left
    refine ⟨hb, ?_⟩
    rw [ev_call, pg55]
    simp [ir55, hg, hb]
/-! ### the law -/
theorem ev9 (s0 : Sq) (w : List Sk) : ∃ r, ev pg (.call (.fn 9 [] []) [s0.v, words w] []) = some r ∧ r.v = .bool true := by
  have hf := ev52 s0
  have hg := ev39 w
  have ha := awake_ev
  rw [ev_call, pg9]
  by_cases h1 : fewSteps s0 = true
  · by_cases h2 : fewW w = true
    · have hw : w.length < 2 ^ 40 := by
        simp [fewW] at h2
        omega
      have a1 : ∃ a k e, ev pg (.call (.fn 49 [] []) [s0.v, words w] []) = some { v := .tup [.bool a, num k, num e], st := ⟨[], []⟩ } ∧ ev pg (.call (.fn 53 [] []) [s0.v, words w] []) = some { v := .tup [.bool a, num k, num e], st := ⟨[], []⟩ } := by
        rcases ev49 s0 w hw with ⟨hb, hc⟩ | ⟨hb, k, full, done, left, hW, hc⟩ <;> rcases ev53 s0 w hw with ⟨hb', hd⟩ | ⟨hb', j, hj, hd⟩
        · exact ⟨_, _, _, hc, hd⟩
        · exact absurd hb' hb
        · exact absurd hb hb'
        · have := isLen_one (hW.len (okSq_of (givErr_ok hb).1)) hj
          subst this
          exact ⟨_, _, _, hc, hd⟩
      have a2 : ∃ k l e, ev pg (.call (.fn 54 [] []) [s0.v, words w] []) = some { v := .tup [num k, num l, num e], st := ⟨[], []⟩ } ∧ ev pg (.call (.fn 55 [] []) [s0.v, words w] []) = some { v := .tup [num k, num l, num e], st := ⟨[], []⟩ } := by
        rcases ev54 s0 w hw with ⟨hb, hc⟩ | ⟨hb, hc⟩ <;> rcases ev55 s0 w hw with ⟨hb', hd⟩ | ⟨hb', hd⟩
        · exact ⟨_, _, _, hc, hd⟩
        · exact absurd hb' hb
        · exact absurd hb hb'
        · exact ⟨_, _, _, hc, hd⟩
      obtain ⟨a, k, e, c1, c2⟩ := a1
      obtain ⟨m, l, f, c3, c4⟩ := a2
      simp [ir9, hf, hg, h1, h2, ha, c1, c2, c3, c4]
    · simp [ir9, hf, hg, h1, h2, ha]
  · simp [ir9, hf, h1, ha]
end Go.Proofs.Ytopjiafdimoeiaa
