/- Normal, Alike and Next, by the program and by the reference; the law. -/
import Derived.Test.YtopjiafdimoeiaaFo2
import Derived.Test.YtopjiafdimoeiaaNe1
namespace Go.Proofs.Ytopjiafdimoeiaa
open Go Go.Am Go.Proofs
set_option maxRecDepth 100000
/-! ### two words held against each other -/
theorem row_eq {x y : Sk} : (x.row = y.row) ↔ x = y := by
  cases x; cases y; simp
def I61 (w v : List Sk) (k : Nat) (st : St) : Prop := st.h = [] ∧ st.s.length = 26 ∧ getS st.s 0 = words w ∧ getS st.s 1 = words v ∧ getS st.s 5 = num k ∧ w.take k = v.take k
def Q61 (w v : List Sk) (r : R) : Prop := r.st.s.length = 26 ∧ ((r.x = .exit 0 ∧ w = v) ∨ (r.x = .ret ∧ getS r.st.s 4 = .bool false ∧ w ≠ v))
theorem take_next {w v : List Sk} {k : Nat} (hw : k < w.length) (hv : k < v.length) (h : w.take k = v.take k) : (w[k] = v[k] → w.take (k + 1) = v.take (k + 1)) ∧ (w[k] ≠ v[k] → w ≠ v) := by
  refine ⟨fun e => by rw [List.take_succ_eq_append_getElem hw, List.take_succ_eq_append_getElem hv, h, e], fun e e2 => e (by subst e2; rfl)⟩
theorem loop61 (w v : List Sk) (hlen : w.length = v.length) (hw : w.length < 2 ^ 62) (st : St) (h0 : I61 w v 0 st) : ∃ r, ev pg (.code (.going 0 L61_0) st) = some r ∧ Q61 w v r := by
  refine loop_from (I61 w v) w.length (Q61 w v) h0 ?_ ?_
  · rintro k ⟨s, h⟩ hk ⟨rfl, hl, e0, e1, e5, he⟩
    simp only at hl e0 e1 e5
    have hkv : k < v.length := by omega
    have hk' : (k : Int) < w.length := by omega
    have wk := wrap_id (n := (k : Int) + 1) (by omega) (by omega)
    obtain ⟨n1, n2⟩ := take_next hk hkv he
    rw [getS_expand hl]
    by_cases a1 : w[k].act = v[k].act
    · by_cases a2 : w[k].out = v[k].out
      · have hx : w[k] = v[k] := by cases hwk : w[k]; cases hvk : v[k]; rw [hwk, hvk] at a1 a2; simp_all
        simp [L61_0, I61, Q61, List.range, List.range.loop, e0, e1, e5, hk, hkv, hk', a1, a2, wk]
        exact n1 hx
      · have hx : w[k] ≠ v[k] := fun e => a2 (by rw [e])
        have a2' : (w[k].out == v[k].out) = false := by simpa using a2
        simp [L61_0, I61, Q61, List.range, List.range.loop, e0, e1, e5, hk, hkv, hk', a1, a2', wk]
        exact n2 hx
    · have hx : w[k] ≠ v[k] := fun e => a1 (by rw [e])
      have a1' : (w[k].act == v[k].act) = false := by simpa using a1
      simp [L61_0, I61, Q61, List.range, List.range.loop, e0, e1, e5, hk, hkv, hk', a1', wk]
      exact n2 hx
  · rintro ⟨s, h⟩ ⟨rfl, hl, e0, e1, e5, he⟩
    simp only at hl e0 e1 e5 he
    rw [List.take_length, hlen, List.take_length] at he
    rw [getS_expand hl]
    simp [L61_0, Q61, List.range, List.range.loop, e0, e1, e5, he]
theorem ev61 (w v : List Sk) (hw : w.length < 2 ^ 62) : ev pg (.call (.fn 61 [] []) [words w, words v] []) = some { v := .bool (decide (w = v)), st := ⟨[], []⟩ } := by
  rw [ev_call, pg61]
  by_cases hlen : w.length = v.length
  · have hli : (w.length : Int) = (v.length : Int) := by omega
    simp [ir61, hli, ev_loop]
    generalize hr : ev pg (.code (.going 0 L61_0) _) = o
    obtain ⟨r, rfl, hl, hQ⟩ : ∃ r, o = some r ∧ Q61 w v r := by rw [← hr]; exact loop61 w v hlen hw _ (by simp [I61])
    rcases hQ with ⟨hx, hE⟩ | ⟨hx, h4, hE⟩
    · simp [hx, hE, hl]
    · simp [hx, h4, hE]
  · have hli : ((w.length : Int) == (v.length : Int)) = false := by simp; omega
    have hne : w ≠ v := fun e => hlen (by rw [e])
    have hli2 : ((w.length : Int) != (v.length : Int)) = true := by simp; omega
    simp [ir61, hli, hli2, hne]
end Go.Proofs.Ytopjiafdimoeiaa
