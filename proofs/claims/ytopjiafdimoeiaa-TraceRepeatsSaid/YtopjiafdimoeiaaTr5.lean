/- The ends by the reference; marks compared; the law. -/
import Derived.Test.YtopjiafdimoeiaaTr4
import Derived.Test.YtopjiafdimoeiaaAw1
namespace Go.Proofs.Ytopjiafdimoeiaa
open Go Go.Am Go.Proofs
set_option maxRecDepth 100000
def I44 (w : List Sk) (n : Nat) (k : Nat) (st : St) : Prop := ∃ l, st.h = [⟨0, .arr 1 (l.map brow)⟩, ⟨0, .arr 0 []⟩] ∧ l.length = n ∧ st.s.length = 56 ∧ getS st.s 0 = words w ∧ getS st.s 1 = num n ∧ getS st.s 7 = .sl 0 0 1 0 n ∧ getS st.s 5 = num 0 ∧
  getS st.s 8 = num k ∧ endsGo n (List.replicate n false) w = endsGo n l (w.drop k)
def Q44 (w : List Sk) (n : Nat) (r : R) : Prop := r.st.s.length = 56 ∧ ((r.x = .exit 0 ∧ ∃ l, r.st.h = [⟨0, .arr 1 (l.map brow)⟩, ⟨0, .arr 0 []⟩] ∧ l.length = n ∧ getS r.st.s 7 = .sl 0 0 1 0 n ∧ endsGo n (List.replicate n false) w = (l, 0)) ∨
  (r.x = .ret ∧ getS r.st.s 4 = .nils ∧ getS r.st.s 5 = num (endsGo n (List.replicate n false) w).2 ∧ (endsGo n (List.replicate n false) w).1 = []))
theorem loop44 (w : List Sk) (n : Nat) (hw : w.length ≤ 4096) (hp : ∀ x ∈ w, ∃ p : Nat, x.act = p ∧ p < 6) (st : St) (h0 : I44 w n 0 st) : ∃ r, ev pg (.code (.going 2 L44_0) st) = some r ∧ Q44 w n r := by
  refine loop_from (I44 w n) w.length (Q44 w n) h0 ?_ ?_
  · rintro k ⟨s, h⟩ hk ⟨l, rfl, hll, hl, e0, e1, e7, e5, e8, he⟩
    simp only at hl e0 e1 e7 e5 e8
    have hk' : (k : Int) < w.length := by omega
    have wk := wrap_id (n := (k : Int) + 1) (by omega) (by omega)
    obtain ⟨p, hpa, hp6⟩ := hp w[k] (List.getElem_mem hk)
    rw [endsGo_at hk, hpa, Int.toNat_natCast] at he
    rw [getS_expand hl]
    by_cases hx : n ≤ p
    · rw [if_pos (by omega)] at he
      simp [L44_0, I44, Q44, List.range, List.range.loop, e0, e1, e7, e5, e8, hk, hk', hpa, hx, he]
    · rw [if_neg (by omega)] at he
      have hpl : p < l.length := by omega
      have hpn : p < n := by omega
      have hg : l[p]? = some l[p] := List.getElem?_eq_getElem hpl
      by_cases hy : l[p] = w[k].out
      · rw [if_pos (by rw [hg, hy])] at he
        simp [L44_0, I44, Q44, List.range, List.range.loop, e0, e1, e7, e5, e8, hk, hk', hpa, hx, hg, hy, hpn, he]
      · rw [if_neg (by rw [hg]; simpa using hy)] at he
        simp [L44_0, I44, Q44, List.range, List.range.loop, e0, e1, e7, e5, e8, hk, hk', wk, hpa, hx, hg, hy, hpn, he]
        exact ⟨l.set p w[k].out, by rw [set_rows], by simpa using hll, rfl⟩
  · rintro ⟨s, h⟩ ⟨l, rfl, hll, hl, e0, e1, e7, e5, e8, he⟩
    simp only [List.drop_length] at hl e0 e1 e7 e5 e8 he
    rw [getS_expand hl]
    simp [L44_0, Q44, List.range, List.range.loop, e0, e1, e7, e5, e8, he, endsGo]
    exact hll
theorem ev44 (w : List Sk) (n : Int) (hw : w.length < 2 ^ 62) : ev pg (.call (.fn 44 [] []) [words w, num n] []) = some { v := .tup [bools (endsE w n).1, num (endsE w n).2], st := ⟨[], []⟩ } := by
  have hc := ev92 w hw
  rw [ev_call, pg44]
  by_cases h : ckErr w = 0
  · obtain ⟨hle, hp⟩ := ckErr_ok h
    by_cases ha : 1 ≤ n ∧ n ≤ 6
    · obtain ⟨m, rfl⟩ : ∃ m : Nat, n = m := ⟨n.toNat, by omega⟩
      have ha1 : ¬ ((m : Int) < 1) := by omega
      have ha2 : ¬ ((6 : Int) < m) := by omega
      have hm1 : m ≤ 140737488355328 := by omega
      have hm2 : m ≤ 2 ^ 62 := by omega
      simp [ir44, hc, h, ha1, ha2, ha, hm1, hm2, endsE, ev_loop]
      generalize hr : ev pg (.code (.going 2 L44_0) _) = o
      obtain ⟨r, rfl, hl, hQ⟩ : ∃ r, o = some r ∧ Q44 w m r := by rw [← hr]; exact loop44 w m hle hp _ (by simp [I44]; exact ⟨List.replicate m false, by simp, by simp, rfl⟩)
      rcases hQ with ⟨hx, l, hh, hll, h7, hE⟩ | ⟨hx, h4, h5, hE⟩
      · simp [hx, hh, hl, h7, hE, hll]
      · simp [hx, h4, h5, hE]
    · have ha1 : n < 1 ∨ 6 < n := by omega
      rcases ha1 with ha1 | ha1
      · simp [ir44, hc, h, ha1, endsE, ha]
      · have ha2 : ¬ (n < 1) := by omega
        simp [ir44, hc, h, ha1, ha2, endsE, ha]
  · simp [ir44, hc, h, endsE]
/-! ### marks -/
def I94 (l : List Bool) (k : Nat) (st : St) : Prop := st.h = [] ∧ st.s.length = 26 ∧ getS st.s 0 = bools l ∧ getS st.s 1 = bools l ∧ getS st.s 5 = num k
theorem loop94 (l : List Bool) (hw : l.length < 2 ^ 62) (st : St) (h0 : I94 l 0 st) : ∃ r, ev pg (.code (.going 0 L94_0) st) = some r ∧ r.x = .exit 0 ∧ r.st.s.length = 26 := by
  refine loop_from (I94 l) l.length (fun r => r.x = .exit 0 ∧ r.st.s.length = 26) h0 ?_ ?_
  · rintro k ⟨s, h⟩ hk ⟨rfl, hl, e0, e1, e5⟩
    simp only at hl e0 e1 e5
    have hk' : (k : Int) < l.length := by omega
    have wk := wrap_id (n := (k : Int) + 1) (by omega) (by omega)
    rw [getS_expand hl]
    simp [L94_0, I94, List.range, List.range.loop, e0, e1, e5, hk, hk', wk]
  · rintro ⟨s, h⟩ ⟨rfl, hl, e0, e1, e5⟩
    simp only at hl e0 e1 e5
    rw [getS_expand hl]
    simp [L94_0, List.range, List.range.loop, e0, e1, e5]
theorem ev94 (l : List Bool) (hw : l.length < 2 ^ 62) : ev pg (.call (.fn 94 [] []) [bools l, bools l] []) = some { v := .bool true, st := ⟨[], []⟩ } := by
  rw [ev_call, pg94]
  simp [ir94, ev_loop]
  generalize hr : ev pg (.code (.going 0 L94_0) _) = o
  obtain ⟨r, rfl, hx, hl⟩ : ∃ r, o = some r ∧ r.x = .exit 0 ∧ r.st.s.length = 26 := by rw [← hr]; exact loop94 l hw _ (by simp [I94])
  simp [hx, hl]
theorem ev45 (l : List Bool) (hw : l.length < 2 ^ 62) : ev pg (.call (.fn 45 [] []) [bools l, bools l] []) = some { v := .bool true, st := ⟨[], []⟩ } := by
  have hc := ev94 l hw
  rw [ev_call, pg45]
  simp [ir45, hc]
/-! ### the law -/
def fewW (w : List Sk) : Bool := decide (w.length ≤ 40) || decide (4096 < w.length) && decide (w.length < 8192)
theorem ev39 (w : List Sk) : ev pg (.call (.fn 39 [] []) [words w] []) = some { v := .bool (fewW w), st := ⟨[], []⟩ } := by
  rw [ev_call, pg39]
  have c1 : ((w.length : Int) ≤ 40) ↔ w.length ≤ 40 := by omega
  have c2 : ((4096 : Int) < (w.length : Int)) ↔ 4096 < w.length := by omega
  have c3 : ((w.length : Int) < 8192) ↔ w.length < 8192 := by omega
  by_cases h1 : w.length ≤ 40
  · simp [ir39, fewW, h1, c1]
  · by_cases h2 : 4096 < w.length
    · simp [ir39, fewW, h1, h2, c1, c2, c3]
    · simp [ir39, fewW, h1, h2, c1, c2]
theorem ends_len {n : Nat} : ∀ {l : List Bool} {w : List Sk}, (endsGo n l w).1.length ≤ l.length
  | l, [] => Nat.le_refl _
  | l, x :: r => by
    simp only [endsGo]
    split
    · simp
    · split
      · simp
      · exact Nat.le_trans ends_len (by simp)
theorem endsE_len (w : List Sk) (n : Int) : (endsE w n).1.length ≤ 6 := by
  unfold endsE
  split
  · simp
  · split
    · exact Nat.le_trans ends_len (by simp; omega)
    · simp
theorem dirsE_len (w : List Sk) (a : Int) : (dirsE w a).1.length ≤ w.length := by
  unfold dirsE
  split
  · simp
  · split
    · exact dirs_len w a
    · simp
theorem ev7 (w : List Sk) (n : Int) : ∃ r, ev pg (.call (.fn 7 [] []) [words w, num n] []) = some r ∧ r.v = .bool true := by
  have hf := ev39 w
  have ha := awake_ev
  rw [ev_call, pg7]
  by_cases h : fewW w = true
  · have hw : w.length < 2 ^ 62 := by
      simp [fewW] at h
      omega
    have h41 := ev41 w n hw
    have h42 := ev42 w n hw
    have h43 := ev43 w n hw
    have h44 := ev44 w n hw
    have s1 := ev45 (dirsE w n).1 (Nat.lt_of_le_of_lt (dirsE_len w n) hw)
    have s2 := ev45 (endsE w n).1 (Nat.lt_of_le_of_lt (endsE_len w n) (by omega))
    simp [ir7, hf, h, ha, h41, h42, h43, h44, s1, s2]
  · simp [ir7, hf, h, ha]
end Go.Proofs.Ytopjiafdimoeiaa
