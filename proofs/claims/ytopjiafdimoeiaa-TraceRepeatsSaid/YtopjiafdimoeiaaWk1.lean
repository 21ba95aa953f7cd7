/- The place behind some strokes, by the reference. -/
import Derived.Test.YtopjiafdimoeiaaSq8
namespace Go.Proofs.Ytopjiafdimoeiaa
open Go Go.Am Go.Proofs
set_option maxRecDepth 100000
abbrev Place := Nat × Nat × List Sk
def skOf (s : Sq) (i : Nat) : List Sk := (s.steps[i]?.map Stp.sk).getD []
/-- The next place, when the strokes of a step are done. -/
def nextP (s : Sq) (c i : Nat) : Place := if i + 1 = s.steps.length then (c + 1, 0, skOf s 0) else (c, i + 1, skOf s (i + 1))
def minus (l : List Sk) (y : Sk) : List Sk := l.filter fun x => x != y
def stepP (s : Sq) (p : Place) (y : Sk) : Option Place :=
  if (minus p.2.2 y).length = p.2.2.length then none else if minus p.2.2 y = [] then some (nextP s p.1 p.2.1) else some (p.1, p.2.1, minus p.2.2 y)
def walkP (s : Sq) : Place → List Sk → Option Place
  | p, [] => some p
  | p, y :: r => match stepP s p y with
    | some q => walkP s q r
    | none => none
theorem walkP_at {s : Sq} {p : Place} {w : List Sk} {k : Nat} (hk : k < w.length) : walkP s p (w.drop k) = match stepP s p w[k] with
    | some q => walkP s q (w.drop (k + 1))
    | none => none := by
  rw [List.drop_eq_getElem_cons hk]; rfl
theorem minus_take {l : List Sk} {y : Sk} {k : Nat} (hk : k < l.length) : minus (l.take (k + 1)) y = minus (l.take k) y ++ if l[k] = y then [] else [l[k]] := by
  rw [List.take_succ_eq_append_getElem hk]
  unfold minus
  rw [List.filter_append]
  congr 1
  by_cases h : l[k] = y <;> simp [h]
theorem minus_len (l : List Sk) (y : Sk) : (minus l y).length ≤ l.length := List.length_filter_le _ _
abbrev h106 (s : Sq) (c i : Nat) (left : List Sk) : H := [⟨0, .box s.cells⟩, ⟨0, .arr 0 []⟩, ⟨0, .box [num 0, num 0, .sl 1 0 0 0 0, .bool false]⟩, ⟨0, .arr 0 []⟩, ⟨0, .box [num c, num i, words left, .bool true]⟩]
structure Keep3 (w : List Sk) (n k : Nat) (st : List V) : Prop where
  len : st.length = 83
  t1 : getS st 1 = words w
  t2 : getS st 2 = num n
  t3 : getS st 3 = .bptr 0 0
  t6 : getS st 6 = .bptr 2 0
  t7 : getS st 7 = .bptr 4 0
  t8 : getS st 8 = num k
def I106a (s0 : Sq) (w : List Sk) (n k c i : Nat) (left : List Sk) (y : Sk) (j : Nat) (st : St) : Prop := ∃ g m, st.h = h106 s0 c i left ++ [⟨g, .arr m ((minus (left.take j) y).map Sk.row)⟩] ∧ (m = 2 ∨ m = 0) ∧ noNil st.s ∧ Keep3 w n k st.s ∧
  getS st.s 9 = .sl 5 g m 0 (minus (left.take j) y).length ∧ getS st.s 10 = num j
def Q106a (s0 : Sq) (w : List Sk) (n k c i : Nat) (left : List Sk) (y : Sk) (r : R) : Prop := r.x = .exit 2 ∧ ∃ g m, r.st.h = h106 s0 c i left ++ [⟨g, .arr m ((minus left y).map Sk.row)⟩] ∧ noNil r.st.s ∧ Keep3 w n k r.st.s ∧ getS r.st.s 9 = .sl 5 g m 0 (minus left y).length
theorem loop106a (s0 : Sq) (w : List Sk) (n k c i : Nat) (left : List Sk) (y : Sk) (hw : w[k]? = some y) (hl6 : left.length ≤ 6) (st : St) (h0 : I106a s0 w n k c i left y 0 st) : ∃ r, ev pg (.code (.going 6 L106_0) st) = some r ∧ Q106a s0 w n k c i left y r := by
  refine loop_from (I106a s0 w n k c i left y) left.length (Q106a s0 w n k c i left y) h0 ?_ ?_
  · rintro j ⟨s, h⟩ hj ⟨g, m, rfl, hm, hn, ⟨hl, e1, e2, e3, e6, e7, e8⟩, e9, e10⟩
    simp only at hl e1 e2 e3 e6 e7 e8 e9 e10
    have hn : ∀ j, getS s j ≠ .nils := noNil_get hn
    have hj' : (j : Int) < left.length := by omega
    have wj := wrap_id (n := (j : Int) + 1) (by omega) (by omega)
    have hd := minus_take (y := y) hj
    have hln := minus_len (left.take j) y
    have hlt : (left.take j).length ≤ 6 := by simp; omega
    have h47 : ((minus (left.take j) y).length + 1) * 16 ≤ 140737488355328 := by omega
    rw [getS_expand hl]
    by_cases hx : left[j] = y
    · have a1 : left[j].act = y.act := by rw [hx]
      have a2 : left[j].out = y.out := by rw [hx]
      rw [if_pos hx, List.append_nil] at hd
      simp [L106_0, I106a, Q106a, List.range, List.range.loop, e1, e2, e3, e6, e7, e8, e9, e10, hj, hj', hw, a1, a2, wj, hd]
      exact ⟨_, _, ⟨rfl, rfl⟩, hm, by simp [noNil, hn], ⟨rfl, rfl, rfl, rfl, rfl, rfl, rfl⟩, rfl, rfl⟩
    · rw [if_neg hx] at hd
      by_cases a1 : left[j].act = y.act
      · have a2 : ¬ left[j].out = y.out := fun h => hx (by
          cases hwk : left[j] with
          | mk a b => cases y; rw [hwk] at a1 h; simp_all)
        have a2' : (left[j].out == y.out) = false := by simpa using a2
        simp [L106_0, I106a, Q106a, List.range, List.range.loop, e1, e2, e3, e6, e7, e8, e9, e10, hj, hj', hw, a1, a2', wj, hd, hm, h47]
        exact ⟨_, _, ⟨rfl, rfl⟩, .inl rfl, by simp [noNil, hn], ⟨rfl, rfl, rfl, rfl, rfl, rfl, rfl⟩, rfl, rfl⟩
      · have a1' : (left[j].act == y.act) = false := by simpa using a1
        simp [L106_0, I106a, Q106a, List.range, List.range.loop, e1, e2, e3, e6, e7, e8, e9, e10, hj, hj', hw, a1', wj, hd, hm, h47]
        exact ⟨_, _, ⟨rfl, rfl⟩, .inl rfl, by simp [noNil, hn], ⟨rfl, rfl, rfl, rfl, rfl, rfl, rfl⟩, rfl, rfl⟩
  · rintro ⟨s, h⟩ ⟨g, m, rfl, hm, hn, ⟨hl, e1, e2, e3, e6, e7, e8⟩, e9, e10⟩
    simp only [List.take_length] at hl e1 e2 e3 e6 e7 e8 e9 e10
    have hn : ∀ j, getS s j ≠ .nils := noNil_get hn
    rw [getS_expand hl]
    simp [L106_0, Q106a, List.range, List.range.loop, e1, e2, e3, e6, e7, e8, e9, e10]
    exact ⟨_, _, ⟨rfl, rfl⟩, by simp [noNil, hn], ⟨rfl, rfl, rfl, rfl, rfl, rfl, rfl⟩, rfl, rfl⟩
end Go.Proofs.Ytopjiafdimoeiaa
