/- Words of strokes: checked. -/
import Derived.Test.YtopjiafdimoeiaaTr1
namespace Go.Proofs.Ytopjiafdimoeiaa
open Go Go.Am Go.Proofs
set_option maxRecDepth 100000
def firstErr : List Sk → Int
  | [] => 0
  | x :: r => if skErr x = 0 then firstErr r else skErr x
theorem firstErr_at {w : List Sk} {k : Nat} (hk : k < w.length) : firstErr (w.drop k) = if skErr w[k] = 0 then firstErr (w.drop (k + 1)) else skErr w[k] := by
  rw [List.drop_eq_getElem_cons hk]; rfl
def ckErr (w : List Sk) : Int := if 4096 < w.length then 5 else firstErr w
def I91 (w : List Sk) (k : Nat) (st : St) : Prop := st.h = [] ∧ st.s.length = 21 ∧ getS st.s 0 = words w ∧ getS st.s 2 = num 0 ∧ getS st.s 9 = words w ∧ getS st.s 10 = num w.length ∧ getS st.s 11 = num k ∧ firstErr w = firstErr (w.drop k)
def Q91 (w : List Sk) (r : R) : Prop := r.st.s.length = 21 ∧ ((r.x = .exit 0 ∧ r.st.h = [] ∧ getS r.st.s 2 = num 0 ∧ firstErr w = 0) ∨ (r.x = .ret ∧ getS r.st.s 2 = num (firstErr w)))
theorem loop91 (w : List Sk) (hw : w.length < 2 ^ 62) (st : St) (h0 : I91 w 0 st) : ∃ r, ev pg (.code (.going 0 L91_0) st) = some r ∧ Q91 w r := by
  refine loop_from (I91 w) w.length (Q91 w) h0 ?_ ?_
  · rintro k ⟨s, h⟩ hk ⟨rfl, hl, e0, e2, e9, e10, e11, he⟩
    simp only at hl e0 e2 e9 e10 e11
    have hc := ev135 w[k]
    have hk' : (k : Int) < w.length := by omega
    have wk := wrap_id (n := (k : Int) + 1) (by omega) (by omega)
    rw [firstErr_at hk] at he
    rw [getS_expand hl]
    by_cases hx : skErr w[k] = 0
    · rw [if_pos hx] at he
      simp [L91_0, I91, Q91, List.range, List.range.loop, e0, e2, e9, e10, e11, hk, hk', hc, hx, wk, he, ir135]
    · rw [if_neg hx] at he
      simp [L91_0, I91, Q91, List.range, List.range.loop, e0, e2, e9, e10, e11, hk, hk', hc, hx, he, ir135]
  · rintro ⟨s, h⟩ ⟨rfl, hl, e0, e2, e9, e10, e11, he⟩
    simp only at hl e0 e2 e9 e10 e11
    rw [getS_expand hl]
    simp [L91_0, I91, Q91, List.range, List.range.loop, e0, e2, e9, e10, e11, he, firstErr]
theorem ev91 (w : List Sk) (hw : w.length < 2 ^ 62) : ev pg (.call (.fn 91 [] []) [words w] []) = some { v := num (ckErr w), st := ⟨[], []⟩ } := by
  rw [ev_call, pg91]
  by_cases h : 4096 < w.length
  · have hi : (4096 : Int) < (w.length : Int) := by omega
    simp [ir91, ckErr, h, hi]
  · have hi : ¬ ((4096 : Int) < (w.length : Int)) := by omega
    simp [ir91, ckErr, h, hi, ev_loop]
    generalize hr : ev pg (.code (.going 0 L91_0) _) = o
    obtain ⟨r, rfl, hl, hQ⟩ : ∃ r, o = some r ∧ Q91 w r := by rw [← hr]; exact loop91 w hw _ (by simp [I91])
    rcases hQ with ⟨hx, hh, h2, hf⟩ | ⟨hx, h2⟩
    · simp [hx, hf, hh, hl]
    · simp [hx, h2]
end Go.Proofs.Ytopjiafdimoeiaa
