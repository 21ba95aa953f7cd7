/- Pilots, by the reference. -/
import Derived.Test.YtopjiafdimoeiaaGreatAl2
namespace Go.Proofs.YtopjiafdimoeiaaGreat
open Go Go.Am Go.Proofs
set_option maxRecDepth 100000
def lineV (k : Int) : Int := if k = 2 then 1 else 0
def pil (c : Ct) (k i : Int) (j : Nat) : Int × Int :=
  if k = 2 ∨ k = 3 then (if c.plus.getD j 0 = i then lineV k else -1, if c.minus.getD j 0 = i then lineV k else -1)
  else if (j : Int) = i then (if k = 0 then (0, -1) else if k = 1 then (-1, 0) else if k = 4 then (1, 0) else (0, 1)) else (-1, -1)
def pilL (c : Ct) (k i : Int) (n : Nat) : List (Int × Int) := (List.range n).map (pil c k i)
theorem pilL_succ (c : Ct) (k i : Int) (n : Nat) : pilL c k i (n + 1) = pilL c k i n ++ [pil c k i n] := by
  unfold pilL
  rw [List.range_succ, List.map_append]
  rfl
theorem pilL_len (c : Ct) (k i : Int) (n : Nat) : (pilL c k i n).length = n := by simp [pilL]
structure Keep78 (j : Nat) (st : List V) : Prop where
  nn : noNil st
  len : st.length = 63
  t2 : getS st 2 = .bptr 0 0
  t3 : getS st 3 = .bptr 1 0
  t6 : getS st 6 = num j
abbrev h78 (c : Ct) (k i : Int) (g m : Nat) (l : List (Int × Int)) : H := [⟨0, .box c.cells⟩, ⟨0, .box [num k, num i]⟩, ⟨0, .arr 0 []⟩, ⟨g, .arr m (l.map frow)⟩]
def I78 (c : Ct) (k i : Int) (j : Nat) (st : St) : Prop := ∃ g m, st.h = h78 c k i g m (pilL c k i j) ∧ (m = 2 ∨ m = 0) ∧ Keep78 j st.s ∧ getS st.s 5 = .sl 3 g m 0 (pilL c k i j).length
def Q78 (c : Ct) (A : Nat) (k i : Int) (r : R) : Prop := r.x = .exit 0 ∧ ∃ g m, r.st.h = h78 c k i g m (pilL c k i A) ∧ r.st.s.length = 63 ∧ getS r.st.s 5 = .sl 3 g m 0 (pilL c k i A).length
set_option maxHeartbeats 2000000 in
theorem loop78 {c : Ct} {A : Nat} (h : Mid c A) (hp : c.plus.length = A) (hm : c.minus.length = A) (k i : Int) (hk : 0 ≤ k ∧ k < 6) (st : St) (h0 : I78 c k i 0 st) : ∃ r, ev pg (.code (.going 4 L68_0) st) = some r ∧ Q78 c A k i r := by
  have hA6 := h.hi
  have hA := h.act
  refine loop_from (I78 c k i) A (Q78 c A k i) h0 ?_ ?_
  · rintro j ⟨s, hh⟩ hj ⟨g, m, rfl, hm2, ⟨hnn, hl, e2, e3, e6⟩, e5⟩
    simp only at hl e2 e3 e5 e6
    have hnl : ∀ j, getS s j ≠ .nils := noNil_get hnn
    have wj := wrap_id (n := (j : Int) + 1) (by omega) (by omega)
    have hj' : (j : Int) < c.act := by omega
    have hlen := pilL_len c k i j
    have hp' : j < c.plus.length := by omega
    have hm' : j < c.minus.length := by omega
    have h74 := ev65 k
    have e0 : ∀ p, pil c k i j = p → pilL c k i (j + 1) = pilL c k i j ++ [p] := fun p e => by rw [pilL_succ, e]
    unfold I78
    generalize pilL c k i j = l at *
    generalize pilL c k i (j + 1) = l' at *
    have h47 : (l.length + 1) * 16 ≤ 140737488355328 := by omega
    have pd : c.plus.getD j 0 = c.plus[j] := by simp [hp']
    have md : c.minus.getD j 0 = c.minus[j] := by simp [hm']
    unfold pil at e0
    rw [pd, md] at e0
    rw [getS_expand hl]
    by_cases hlin : k = 2 ∨ k = 3
    · rw [if_pos hlin] at e0
      rw [decide_eq_true hlin] at h74
      by_cases b1 : c.plus[j] = i
      · by_cases b2 : c.minus[j] = i
        · rw [if_pos b1, if_pos b2] at e0
          have e0 := e0 _ rfl
          rcases hlin with rfl | rfl
          · simp [L68_0, List.range, List.range.loop, e2, e3, e5, e6, hj', hp', hm', h74, wj, hm2, h47, b1, b2]
            exact ⟨_, _, ⟨rfl, rfl, by rw [e0]; simp [lineV]⟩, .inl rfl, ⟨by simp [noNil, hnl], rfl, rfl, rfl, rfl⟩, rfl, rfl, by rw [e0]; simp⟩
          · simp [L68_0, List.range, List.range.loop, e2, e3, e5, e6, hj', hp', hm', h74, wj, hm2, h47, b1, b2]
            exact ⟨_, _, ⟨rfl, rfl, by rw [e0]; simp [lineV]⟩, .inl rfl, ⟨by simp [noNil, hnl], rfl, rfl, rfl, rfl⟩, rfl, rfl, by rw [e0]; simp⟩
        · have b2b : (c.minus[j] == i) = false := by simpa using b2
          rw [if_pos b1, if_neg b2] at e0
          have e0 := e0 _ rfl
          rcases hlin with rfl | rfl
          · simp [L68_0, List.range, List.range.loop, e2, e3, e5, e6, hj', hp', hm', h74, wj, hm2, h47, b1, b2b]
            exact ⟨_, _, ⟨rfl, rfl, by rw [e0]; simp [lineV]⟩, .inl rfl, ⟨by simp [noNil, hnl], rfl, rfl, rfl, rfl⟩, rfl, rfl, by rw [e0]; simp⟩
          · simp [L68_0, List.range, List.range.loop, e2, e3, e5, e6, hj', hp', hm', h74, wj, hm2, h47, b1, b2b]
            exact ⟨_, _, ⟨rfl, rfl, by rw [e0]; simp [lineV]⟩, .inl rfl, ⟨by simp [noNil, hnl], rfl, rfl, rfl, rfl⟩, rfl, rfl, by rw [e0]; simp⟩
      · have b1b : (c.plus[j] == i) = false := by simpa using b1
        by_cases b2 : c.minus[j] = i
        · rw [if_neg b1, if_pos b2] at e0
          have e0 := e0 _ rfl
          rcases hlin with rfl | rfl
          · simp [L68_0, List.range, List.range.loop, e2, e3, e5, e6, hj', hp', hm', h74, wj, hm2, h47, b1b, b2]
            exact ⟨_, _, ⟨rfl, rfl, by rw [e0]; simp [lineV]⟩, .inl rfl, ⟨by simp [noNil, hnl], rfl, rfl, rfl, rfl⟩, rfl, rfl, by rw [e0]; simp⟩
          · simp [L68_0, List.range, List.range.loop, e2, e3, e5, e6, hj', hp', hm', h74, wj, hm2, h47, b1b, b2]
            exact ⟨_, _, ⟨rfl, rfl, by rw [e0]; simp [lineV]⟩, .inl rfl, ⟨by simp [noNil, hnl], rfl, rfl, rfl, rfl⟩, rfl, rfl, by rw [e0]; simp⟩
        · have b2b : (c.minus[j] == i) = false := by simpa using b2
          rw [if_neg b1, if_neg b2] at e0
          have e0 := e0 _ rfl
          rcases hlin with rfl | rfl
          · simp [L68_0, List.range, List.range.loop, e2, e3, e5, e6, hj', hp', hm', h74, wj, hm2, h47, b1b, b2b]
            exact ⟨_, _, ⟨rfl, rfl, by rw [e0]; simp⟩, .inl rfl, ⟨by simp [noNil, hnl], rfl, rfl, rfl, rfl⟩, rfl, rfl, by rw [e0]; simp⟩
          · simp [L68_0, List.range, List.range.loop, e2, e3, e5, e6, hj', hp', hm', h74, wj, hm2, h47, b1b, b2b]
            exact ⟨_, _, ⟨rfl, rfl, by rw [e0]; simp⟩, .inl rfl, ⟨by simp [noNil, hnl], rfl, rfl, rfl, rfl⟩, rfl, rfl, by rw [e0]; simp⟩
    · rw [if_neg hlin] at e0
      rw [decide_eq_false hlin] at h74
      by_cases b3 : (j : Int) = i
      · rw [if_pos b3] at e0
        subst b3
        rcases (by omega : k = 0 ∨ k = 1 ∨ k = 4 ∨ k = 5) with rfl | rfl | rfl | rfl
        · have e0 := e0 _ rfl
          simp [L68_0, List.range, List.range.loop, e2, e3, e5, e6, hj', h74, wj, hm2, h47]
          exact ⟨_, _, ⟨rfl, rfl, by rw [e0]; simp⟩, .inl rfl, ⟨by simp [noNil, hnl], rfl, rfl, rfl, rfl⟩, rfl, rfl, by rw [e0]; simp⟩
        · have e0 := e0 _ rfl
          simp [L68_0, List.range, List.range.loop, e2, e3, e5, e6, hj', h74, wj, hm2, h47]
          exact ⟨_, _, ⟨rfl, rfl, by rw [e0]; simp⟩, .inl rfl, ⟨by simp [noNil, hnl], rfl, rfl, rfl, rfl⟩, rfl, rfl, by rw [e0]; simp⟩
        · have e0 := e0 _ rfl
          simp [L68_0, List.range, List.range.loop, e2, e3, e5, e6, hj', h74, wj, hm2, h47]
          exact ⟨_, _, ⟨rfl, rfl, by rw [e0]; simp⟩, .inl rfl, ⟨by simp [noNil, hnl], rfl, rfl, rfl, rfl⟩, rfl, rfl, by rw [e0]; simp⟩
        · have e0 := e0 _ rfl
          simp [L68_0, List.range, List.range.loop, e2, e3, e5, e6, hj', h74, wj, hm2, h47]
          exact ⟨_, _, ⟨rfl, rfl, by rw [e0]; simp⟩, .inl rfl, ⟨by simp [noNil, hnl], rfl, rfl, rfl, rfl⟩, rfl, rfl, by rw [e0]; simp⟩
      · have b3b : ((j : Int) == i) = false := by simpa using b3
        rw [if_neg b3] at e0
        have e0 := e0 _ rfl
        simp [L68_0, List.range, List.range.loop, e2, e3, e5, e6, hj', h74, wj, hm2, h47, b3b]
        exact ⟨_, _, ⟨rfl, rfl, by rw [e0]; simp⟩, .inl rfl, ⟨by simp [noNil, hnl], rfl, rfl, rfl, rfl⟩, rfl, rfl, by rw [e0]; simp⟩
  · rintro ⟨s, hh⟩ ⟨g, m, rfl, hm2, ⟨hnn, hl, e2, e3, e6⟩, e5⟩
    simp only at hl e2 e3 e5 e6
    unfold Q78
    generalize pilL c k i A = l at *
    rw [getS_expand hl]
    simp [L68_0, List.range, List.range.loop, e2, e3, e5, e6, hA]
theorem ev68 {c : Ct} {A : Nat} (h : Mid c A) (hp : c.plus.length = A) (hm : c.minus.length = A) (k i : Int) (hk : 0 ≤ k ∧ k < 6) : ev pg (.call (.fn 68 [] []) [c.v, fv k i] []) = some { v := faults (pilL c k i A), st := ⟨[], []⟩ } := by
  have hloop := loop78 h hp hm k i hk
  have hI : ∀ st : St, (st.h = h78 c k i 0 0 [] ∧ Keep78 0 st.s ∧ getS st.s 5 = .sl 3 0 0 0 0) → I78 c k i 0 st := fun st hst => by
    refine ⟨0, 0, ?_, .inr rfl, hst.2.1, ?_⟩
    · rw [hst.1]; rfl
    · rw [hst.2.2]; rfl
  unfold Q78 at hloop
  generalize pilL c k i A = l at *
  rw [ev_call, pg68]
  simp [ir68, ev_loop]
  generalize hr : ev pg (.code (.going 4 L68_0) _) = o
  obtain ⟨r, rfl, hx, g, m, hh, hl, h5⟩ : ∃ r, o = some r ∧ _ := by
    rw [← hr]
    exact hloop _ (hI _ ⟨by simp, ⟨by simp [noNil], by simp, by simp, by simp, by simp⟩, by simp⟩)
  simp [hx, hh, hl, h5]
end Go.Proofs.YtopjiafdimoeiaaGreat
