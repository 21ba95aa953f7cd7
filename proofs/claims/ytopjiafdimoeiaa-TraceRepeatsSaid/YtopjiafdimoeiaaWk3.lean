/- Walk and Length of the reference. -/
import Derived.Test.YtopjiafdimoeiaaWk2
namespace Go.Proofs.Ytopjiafdimoeiaa
open Go Go.Am Go.Proofs
set_option maxRecDepth 100000
def folV : Option Place → V
  | none => .agg [num 0, num 0, .imm [], .bool false]
  | some p => .agg [num p.1, num p.2.1, words p.2.2, .bool true]
def walkN (s : Sq) (w : List Sk) (n : Nat) : Option Place := walkP s (0, 0, skOf s 0) (w.take n)
theorem ev106 (s0 : Sq) (hs : okSteps s0) (w : List Sk) (n : Nat) (hn : n ≤ w.length) (hw : w.length < 2 ^ 40) : ev pg (.call (.fn 106 [] []) [s0.v, words w, num n] []) = some { v := folV (walkN s0 w n), st := ⟨[], []⟩ } := by
  obtain ⟨q1, q2⟩ := skOf_at (s := s0) (i := 0) hs.1
  rw [ev_call, pg106]
  simp [ir106, q1, ev_loop]
  generalize hr : ev pg (.code (.going 5 L106_1) _) = o
  obtain ⟨r, rfl, hl, hQ⟩ : ∃ r, o = some r ∧ Q106 s0 w n r := by
    rw [← hr]
    refine loop106 s0 hs w n hn hw _ ⟨0, 0, skOf s0 0, by simp [q2], ⟨Nat.le_refl _, hs.1, by simp only [q2]; exact hs.2.2 _ (List.getElem_mem hs.1)⟩, by simp [noNil], ⟨by simp, by simp, by simp, by simp, by simp, by simp, by simp⟩, rfl⟩
  rcases hQ with ⟨hx, c, i, left, hh, g6, g7, hE⟩ | ⟨hx, g6, ⟨a, b, c, d, e, hh⟩, hE⟩
  · have hE' : walkN s0 w n = some (c, i, left) := hE
    simp [hx, hh, hl, g6, g7, hE', folV]
  · have hE' : walkN s0 w n = none := hE
    simp [hx, hh, g6, hE', folV]
def I104 (s0 : Sq) (w : List Sk) (k : Nat) (st : St) : Prop := st.h = [⟨0, .box s0.cells⟩] ∧ st.s.length = 21 ∧ getS st.s 1 = words w ∧ getS st.s 2 = .bptr 0 0 ∧ getS st.s 5 = num k ∧ ∀ j, j ≤ k → (walkN s0 w j).isSome = true
/-- How many of the first strokes are a beginning. -/
def isLen (s : Sq) (w : List Sk) (k : Nat) : Prop := k ≤ w.length ∧ (∀ j, j ≤ k → (walkN s w j).isSome = true) ∧ (k < w.length → walkN s w (k + 1) = none)
def Q104 (s : Sq) (w : List Sk) (r : R) : Prop := r.st.s.length = 21 ∧ r.x = .exit 0 ∧ ∃ k : Nat, getS r.st.s 5 = num k ∧ isLen s w k
theorem loop104 (s0 : Sq) (hs : okSteps s0) (w : List Sk) (hw : w.length < 2 ^ 40) (st : St) (h0 : I104 s0 w 0 st) : ∃ r, ev pg (.code (.going 1 L104_0) st) = some r ∧ Q104 s0 w r := by
  refine loop_from (I104 s0 w) w.length (Q104 s0 w) h0 ?_ ?_
  · rintro k ⟨s, h⟩ hk ⟨rfl, hl, e1, e2, e5, he⟩
    simp only at hl e1 e2 e5
    have hk' : (k : Int) < w.length := by omega
    have wk := wrap_id (n := (k : Int) + 1) (by omega) (by omega)
    have hc := ev106 s0 hs w (k + 1) (by omega) hw
    have hcast : num ((k + 1 : Nat) : Int) = .int .i64 ((k : Int) + 1) := rfl
    rw [hcast] at hc
    rw [getS_expand hl]
    cases hwn : walkN s0 w (k + 1) with
    | none =>
      rw [hwn] at hc
      simp only [folV] at hc
      simp [L104_0, I104, Q104, List.range, List.range.loop, e1, e2, e5, hk', hc, wk]
      exact ⟨k, rfl, by omega, he, fun _ => hwn⟩
    | some p =>
      rw [hwn] at hc
      simp only [folV] at hc
      have hnext : ∀ j, j ≤ k + 1 → (walkN s0 w j).isSome = true := by
        intro j hj
        by_cases hjk : j = k + 1
        · subst hjk; rw [hwn]; rfl
        · exact he j (by omega)
      simp [L104_0, I104, Q104, List.range, List.range.loop, e1, e2, e5, hk', hc, wk]
      exact hnext
  · rintro ⟨s, h⟩ ⟨rfl, hl, e1, e2, e5, he⟩
    simp only at hl e1 e2 e5
    rw [getS_expand hl]
    simp [L104_0, Q104, List.range, List.range.loop, e1, e5]
    exact ⟨_, rfl, Nat.le_refl _, he, fun h => by omega⟩
theorem ev104 (s0 : Sq) (hs : okSteps s0) (w : List Sk) (hw : w.length < 2 ^ 40) : ∃ k : Nat, isLen s0 w k ∧ ev pg (.call (.fn 104 [] []) [s0.v, words w] []) = some { v := num k, st := ⟨[], []⟩ } := by
  rw [ev_call, pg104]
  simp [ir104, ev_loop]
  generalize hr : ev pg (.code (.going 1 L104_0) _) = o
  obtain ⟨r, rfl, hl, hx, k, h5, hk⟩ : ∃ r, o = some r ∧ Q104 s0 w r := by
    rw [← hr]
    refine loop104 s0 hs w hw _ ⟨by simp, by simp, by simp, by simp, by simp, fun j hj => ?_⟩
    have : j = 0 := by omega
    subst this
    rfl
  exact ⟨k, hk, by simp [hx, h5, hl]⟩
end Go.Proofs.Ytopjiafdimoeiaa
