/- Words of strokes: checked by the reference; the directions. -/
import Derived.Test.YtopjiafdimoeiaaTr2
namespace Go.Proofs.Ytopjiafdimoeiaa
open Go Go.Am Go.Proofs
set_option maxRecDepth 100000
def I92 (w : List Sk) (k : Nat) (st : St) : Prop := st.h = [] ∧ st.s.length = 22 ∧ getS st.s 0 = words w ∧ getS st.s 2 = num 0 ∧ getS st.s 3 = num k ∧ firstErr w = firstErr (w.drop k)
def Q92 (w : List Sk) (r : R) : Prop := r.st.s.length = 22 ∧ ((r.x = .exit 0 ∧ r.st.h = [] ∧ getS r.st.s 2 = num 0 ∧ firstErr w = 0) ∨ (r.x = .ret ∧ getS r.st.s 2 = num (firstErr w)))
theorem loop92 (w : List Sk) (hw : w.length < 2 ^ 62) (st : St) (h0 : I92 w 0 st) : ∃ r, ev pg (.code (.going 0 L92_0) st) = some r ∧ Q92 w r := by
  refine loop_from (I92 w) w.length (Q92 w) h0 ?_ ?_
  · rintro k ⟨s, h⟩ hk ⟨rfl, hl, e0, e2, e3, he⟩
    simp only at hl e0 e2 e3
    have hc := ev47 w[k]
    have hk' : (k : Int) < w.length := by omega
    have wk := wrap_id (n := (k : Int) + 1) (by omega) (by omega)
    rw [firstErr_at hk] at he
    rw [getS_expand hl]
    by_cases hx : skErr w[k] = 0
    · rw [if_pos hx] at he
      simp [L92_0, I92, Q92, List.range, List.range.loop, e0, e2, e3, hk, hk', hc, hx, wk, he]
    · rw [if_neg hx] at he
      simp [L92_0, I92, Q92, List.range, List.range.loop, e0, e2, e3, hk, hk', hc, hx, wk, he]
  · rintro ⟨s, h⟩ ⟨rfl, hl, e0, e2, e3, he⟩
    simp only at hl e0 e2 e3
    rw [getS_expand hl]
    simp [L92_0, I92, Q92, List.range, List.range.loop, e0, e2, e3, he, firstErr]
theorem ev92 (w : List Sk) (hw : w.length < 2 ^ 62) : ev pg (.call (.fn 92 [] []) [words w] []) = some { v := num (ckErr w), st := ⟨[], []⟩ } := by
  rw [ev_call, pg92]
  by_cases h : 4096 < w.length
  · have hi : (4096 : Int) < (w.length : Int) := by omega
    simp [ir92, ckErr, h, hi]
  · have hi : ¬ ((4096 : Int) < (w.length : Int)) := by omega
    simp [ir92, ckErr, h, hi, ev_loop]
    generalize hr : ev pg (.code (.going 0 L92_0) _) = o
    obtain ⟨r, rfl, hl, hQ⟩ : ∃ r, o = some r ∧ Q92 w r := by rw [← hr]; exact loop92 w hw _ (by simp [I92])
    rcases hQ with ⟨hx, hh, h2, hf⟩ | ⟨hx, h2⟩
    · simp [hx, hf, hh, hl]
    · simp [hx, h2]
/-! ### the directions -/
abbrev brow (b : Bool) : List V := [.bool b]
def dirs (w : List Sk) (a : Int) : List Bool := (w.filter fun x => x.act == a).map Sk.out
theorem dirs_take {w : List Sk} {k : Nat} (a : Int) (hk : k < w.length) : dirs (w.take (k + 1)) a = dirs (w.take k) a ++ if w[k].act = a then [w[k].out] else [] := by
  rw [List.take_succ_eq_append_getElem hk]
  unfold dirs
  rw [List.filter_append, List.map_append]
  congr 1
  by_cases h : w[k].act = a <;> simp [h]
theorem dirs_len (w : List Sk) (a : Int) : (dirs w a).length ≤ w.length := by
  unfold dirs
  rw [List.length_map]
  exact List.length_filter_le _ _
def dirsE (w : List Sk) (a : Int) : List Bool × Int := if ckErr w ≠ 0 then ([], ckErr w) else if okAct a then (dirs w a, 0) else ([], 2)
def I41 (w : List Sk) (a : Int) (k : Nat) (st : St) : Prop := ∃ g m, st.h = [⟨0, .arr 0 []⟩, ⟨g, .arr m ((dirs (w.take k) a).map brow)⟩] ∧ (m = 1 ∨ m = 0) ∧ st.s.length = 38 ∧ getS st.s 0 = words w ∧ getS st.s 1 = num a ∧ getS st.s 7 = .sl 1 g m 0 (dirs (w.take k) a).length ∧
  getS st.s 21 = words w ∧ getS st.s 22 = num w.length ∧ getS st.s 23 = num k
def Q41 (w : List Sk) (a : Int) (r : R) : Prop := ∃ g m, r.st.h = [⟨0, .arr 0 []⟩, ⟨g, .arr m ((dirs w a).map brow)⟩] ∧ r.st.s.length = 38 ∧ getS r.st.s 7 = .sl 1 g m 0 (dirs w a).length ∧ r.x = .exit 0
theorem loop41 (w : List Sk) (a : Int) (hw : w.length ≤ 4096) (st : St) (h0 : I41 w a 0 st) : ∃ r, ev pg (.code (.going 2 L41_0) st) = some r ∧ Q41 w a r := by
  refine loop_from (I41 w a) w.length (Q41 w a) h0 ?_ ?_
  · rintro k ⟨s, h⟩ hk ⟨g, m, rfl, hm, hl, e0, e1, e7, e21, e22, e23⟩
    simp only at hl e0 e1 e7 e21 e22 e23
    have hk' : (k : Int) < w.length := by omega
    have wk := wrap_id (n := (k : Int) + 1) (by omega) (by omega)
    have hd := dirs_take a hk
    have hln := dirs_len (w.take k) a
    have hlt : (w.take k).length ≤ k := by simp; omega
    have h47 : (dirs (w.take k) a).length + 1 ≤ 140737488355328 := by omega
    rw [getS_expand hl]
    by_cases hx : w[k].act = a
    · rw [if_pos hx] at hd
      simp [L41_0, I41, Q41, List.range, List.range.loop, e0, e1, e7, e21, e22, e23, hk, hk', hx, wk, hm, h47, hd]
      exact ⟨_, _, ⟨rfl, rfl⟩, .inl rfl, rfl, rfl⟩
    · rw [if_neg hx] at hd
      simp [L41_0, I41, Q41, List.range, List.range.loop, e0, e1, e7, e21, e22, e23, hk, hk', hx, wk, hd]
      exact ⟨_, _, ⟨rfl, rfl⟩, hm, rfl, rfl⟩
  · rintro ⟨s, h⟩ ⟨g, m, rfl, hm, hl, e0, e1, e7, e21, e22, e23⟩
    simp only [List.take_length] at hl e0 e1 e7 e21 e22 e23
    rw [getS_expand hl]
    simp [L41_0, I41, Q41, List.range, List.range.loop, e0, e1, e7, e21, e22, e23]
theorem ev41 (w : List Sk) (a : Int) (hw : w.length < 2 ^ 62) : ev pg (.call (.fn 41 [] []) [words w, num a] []) = some { v := .tup [bools (dirsE w a).1, num (dirsE w a).2], st := ⟨[], []⟩ } := by
  have hc := ev91 w hw
  rw [ev_call, pg41]
  by_cases h : ckErr w = 0
  · have hle : w.length ≤ 4096 := by
      unfold ckErr at h
      split at h
      · cases h
      · omega
    by_cases ha : okAct a = true
    · have ha1 : ¬ (a < 0) := by simp [okAct] at ha; omega
      have ha2 : ¬ (6 ≤ a) := by simp [okAct] at ha; omega
      simp [ir41, hc, h, ha1, ha2, dirsE, ha, ev_loop]
      generalize hr : ev pg (.code (.going 2 L41_0) _) = o
      obtain ⟨r, rfl, g, m, hh, hl, h7, hx⟩ : ∃ r, o = some r ∧ Q41 w a r := by rw [← hr]; exact loop41 w a hle _ (by simp [I41, dirs]; exact ⟨_, _, ⟨rfl, rfl⟩, .inr rfl, rfl, rfl⟩)
      simp [hx, hh, hl, h7]
    · have ha1 : a < 0 ∨ 6 ≤ a := by simp [okAct] at ha; omega
      rcases ha1 with ha1 | ha1
      · simp [ir41, hc, h, ha1, dirsE, ha]
      · have ha2 : ¬ (a < 0) := by omega
        simp [ir41, hc, h, ha1, ha2, dirsE, ha]
  · simp [ir41, hc, h, dirsE]
end Go.Proofs.Ytopjiafdimoeiaa
