/- The walk of the program: its parts. -/
import Derived.Test.YtopjiafdimoeiaaWl1
namespace Go.Proofs.Ytopjiafdimoeiaa
open Go Go.Am Go.Proofs
set_option maxRecDepth 100000
theorem ev50 (w : List Sk) (hw : w.length ≤ 4096) : ev pg (.call (.fn 50 [] []) [words w] []) = some { v := .sl 0 0 2 0 w.length, st := ⟨[], [⟨0, .arr 2 (w.map Sk.row)⟩]⟩ } := by
  rw [ev_call, pg50]
  cases w with
  | nil => simp [ir50, moveVs, moveV, move1]
  | cons x w =>
    have h47 : (w.length + 1) * 16 ≤ 140737488355328 := by
      simp only [List.length_cons] at hw
      omega
    simp [ir50, h47, moveVs, moveV, move1]
/-! ### memory that nothing above is held in -/
def calm (h : H) : Prop := h.map (scrubO h.length) = h
theorem calm_cutH {h : H} (hc : calm h) : cutH h.length h = h := by
  unfold cutH
  rw [List.take_length]
  exact hc
theorem scrub1_low {n : Nat} {v : V} (h : scrub1 n v = v) : v.low n = true := by
  unfold scrub1 at h
  split at h
  · assumption
  · rw [← h]; rfl
theorem lowL_of {n : Nat} : ∀ {l : List V}, l.map (scrub1 n) = l → lowL n l = true
  | [], _ => rfl
  | v :: l, h => by
    simp only [List.map_cons, List.cons.injEq] at h
    simp only [lowL, scrub1_low h.1, lowL_of h.2, Bool.and_self]
theorem calm_okCut {h : H} (hc : calm h) : okCut h.length h = true := by
  unfold okCut
  rw [List.take_length, List.all_eq_true]
  intro o ho
  obtain ⟨i, hi⟩ := List.mem_iff_getElem?.1 ho
  have h1 := congrArg (fun l => l[i]?) hc
  simp only [List.getElem?_map, hi, Option.map_some, Option.some.injEq] at h1
  unfold scrubO at h1
  split <;> try rfl
  rename_i cells hk
  rw [hk] at h1
  simp only at h1
  have h2 := congrArg Ob.k h1
  simp only [hk, K.box.injEq] at h2
  exact lowL_of h2
theorem calm_cutL {h : H} (hc : calm h) : cutL h.length h = h := by
  unfold cutL
  rw [if_pos (calm_okCut hc), calm_cutH hc]
theorem calm_cutK {h : H} (hc : calm h) : cutK h.length h = h := by
  unfold cutK
  rw [if_pos (calm_okCut hc), calm_cutH hc]
theorem calm_set {h : H} {id g n : Nat} {els : List (List V)} (hc : calm h) : calm (h.set id ⟨g, .arr n els⟩) := by
  unfold calm at hc ⊢
  rw [List.length_set, List.map_set, hc]
  rfl
/-! ### rows of an own list, with something behind them -/
structure rowsE (E : List (List V)) (l : List Sk) : Prop where
  take : E.take l.length = l.map Sk.row
  pure : pureR E = true
  two : sized 2 E = true
theorem rowsE.len {E : List (List V)} {l : List Sk} (h : rowsE E l) : l.length ≤ E.length := by
  have := congrArg List.length h.take
  rw [List.length_take, List.length_map] at this
  omega
theorem rowsE.get {E : List (List V)} {l : List Sk} (h : rowsE E l) {k : Nat} {y : Sk} (hy : l[k]? = some y) : E[k]? = some y.row := by
  have h1 := congrArg (fun l => l[k]?) h.take
  have hk := (List.getElem?_eq_some_iff.1 hy).1
  simp only [List.getElem?_take_of_lt hk, List.getElem?_map, hy, Option.map_some] at h1
  exact h1
theorem rowsE.win {E : List (List V)} {l : List Sk} (h : rowsE E l) : windowE E 0 l.length = some (l.map Sk.row) := by
  unfold windowE
  split
  · rename_i hh
    rw [← h.take, hh.2, List.take_length]
  · rw [if_pos (by have := h.len; omega), List.drop_zero, h.take]
theorem rowsE_row (l : List Sk) : rowsE (l.map Sk.row) l := ⟨by rw [← List.length_map (f := Sk.row), List.take_length], by simp, by simp [sized]⟩
def delE (E : List (List V)) (n k : Nat) : List (List V) :=
  overR (overR E k ((E.drop (k + 1)).take (n - (k + 1)))) (n - 1) [[num 0, .bool false]]
theorem ys_length {E : List (List V)} {n k : Nat} (hn : n ≤ E.length) : ((E.drop (k + 1)).take (n - (k + 1))).length = n - (k + 1) := by
  rw [List.length_take, List.length_drop]; omega
theorem mem_overR {E ys : List (List V)} {p : Nat} {r : List V} (h : r ∈ overR E p ys) : r ∈ E ∨ r ∈ ys := by
  unfold overR at h
  rcases List.mem_append.1 h with h | h
  · exact .inl (List.mem_of_mem_take h)
  · rcases List.mem_append.1 h with h | h
    · exact .inr h
    · exact .inl (List.mem_of_mem_drop h)
theorem mem_delE {E : List (List V)} {n k : Nat} {r : List V} (h : r ∈ delE E n k) : r ∈ E ∨ r = [num 0, .bool false] := by
  unfold delE at h
  rcases mem_overR h with h | h
  · rcases mem_overR h with h | h
    · exact .inl h
    · exact .inl (List.mem_of_mem_drop (List.mem_of_mem_take h))
  · exact .inr (List.mem_singleton.1 h)
theorem overR_length {E ys : List (List V)} {p : Nat} (h : p + ys.length ≤ E.length) : (overR E p ys).length = E.length := by
  unfold overR
  simp only [List.length_append, List.length_take, List.length_drop]
  omega
theorem rowsE_del {E : List (List V)} {l : List Sk} {k : Nat} (hE : rowsE E l) (hk : k < l.length) : rowsE (delE E l.length k) (l.eraseIdx k) := by
  have hn := hE.len
  have hy := ys_length (k := k) hn
  have h1 : (overR E k ((E.drop (k + 1)).take (l.length - (k + 1)))).length = E.length := overR_length (by omega)
  refine ⟨?_, ?_, ?_⟩
  · rw [List.length_eraseIdx_of_lt hk]
    have h2 : (delE E l.length k).take (l.length - 1) = (overR E k ((E.drop (k + 1)).take (l.length - (k + 1)))).take (l.length - 1) := by
      unfold delE
      generalize overR E k ((E.drop (k + 1)).take (l.length - (k + 1))) = X at h1
      unfold overR
      rw [List.take_append_of_le_length (by rw [List.length_take]; omega), List.take_take, Nat.min_self]
    rw [h2]
    have h3 : overR E k ((E.drop (k + 1)).take (l.length - (k + 1))) = (E.take k ++ (E.drop (k + 1)).take (l.length - (k + 1))) ++ E.drop (k + (l.length - (k + 1))) := by
      unfold overR
      rw [hy, List.append_assoc]
    have h4 : (E.take k ++ (E.drop (k + 1)).take (l.length - (k + 1))).length = l.length - 1 := by
      rw [List.length_append, hy, List.length_take]; omega
    rw [h3, List.take_append_of_le_length (by omega), List.take_of_length_le (by omega)]
    rw [List.eraseIdx_eq_take_drop_succ, List.map_append, List.map_take, List.map_drop, ← hE.take, List.take_take, Nat.min_eq_left (by omega), List.drop_take]
  · unfold pureR
    rw [List.all_eq_true]
    intro r hr
    rcases mem_delE hr with h | rfl
    · exact List.all_eq_true.1 hE.pure r h
    · rfl
  · unfold sized
    rw [List.all_eq_true]
    intro r hr
    rcases mem_delE hr with h | rfl
    · exact List.all_eq_true.1 hE.two r h
    · rfl
theorem ev142 (h : H) (id g : Nat) (E : List (List V)) (l : List Sk) (k : Nat) (hk : k < l.length) (h6 : l.length ≤ 6) (ho : h[id]? = some ⟨g, .arr 2 E⟩) (hc : calm h) (hE : rowsE E l) : ev pg (.call (.fn 142 [] []) [.sl id g 2 0 l.length, num k, num ((k : Int) + 1)] h) = some { v := .sl id (g + 1) 2 0 (l.length - 1), st := ⟨[], h.set id ⟨g + 1, .arr 2 (delE E l.length k)⟩⟩ } := by
  have hlt := (List.getElem?_eq_some_iff.1 ho).1
  have hn := hE.len
  have hy := ys_length (k := k) hn
  have h1 : (overR E k ((E.drop (k + 1)).take (l.length - (k + 1)))).length = E.length := overR_length (by omega)
  have hwin : windowE E (k + 1) (l.length - (k + 1)) = some ((E.drop (k + 1)).take (l.length - (k + 1))) := by
    unfold windowE
    rw [if_neg (by omega), if_pos (by omega)]
  have hsz : sized 2 ((E.drop (k + 1)).take (l.length - (k + 1))) = true := by
    unfold sized
    rw [List.all_eq_true]
    exact fun r hr => List.all_eq_true.1 hE.two r (List.mem_of_mem_drop (List.mem_of_mem_take hr))
  have hpu : pureR ((E.drop (k + 1)).take (l.length - (k + 1))) = true := by
    unfold pureR
    rw [List.all_eq_true]
    exact fun r hr => List.all_eq_true.1 hE.pure r (List.mem_of_mem_drop (List.mem_of_mem_take hr))
  have hcc := calm_cutH (calm_set (id := id) (g := g + 1) (n := 2) (els := delE E l.length k) hc)
  rw [List.length_set] at hcc
  unfold delE at hcc ⊢
  have hk1 : (0 : Int) ≤ (k : Int) + 1 := by omega
  have hne : ¬ ((k : Int) = (k : Int) + 1) := by omega
  have hkl : k + 1 ≤ l.length := hk
  have hkl2 : k ≤ l.length := by omega
  have hkE : ¬ (k = E.length) := by omega
  have hkE2 : k ≤ E.length := by omega
  have h47 : (l.length - 1) * 16 ≤ 140737488355328 := by omega
  have e1 : k + (l.length - (k + 1)) = l.length - 1 := by omega
  have e2 : ¬ (l.length ≤ l.length - 1) := by omega
  have e3 : l.length - 1 ≤ l.length := by omega
  have e4 : l.length - (l.length - 1) = 1 := by omega
  have e5 : l.length - 1 + 1 ≤ E.length := by omega
  have e6 : l.length - 1 ≤ E.length := by omega
  generalize hX : overR E k ((E.drop (k + 1)).take (l.length - (k + 1))) = X at *
  generalize hY : (E.drop (k + 1)).take (l.length - (k + 1)) = Y at *
  have hoe := (List.getElem?_eq_some_iff.1 ho).2
  have hneb : ((k : Int) == (k : Int) + 1) = false := by simpa using hne
  rw [ev_call, pg142]
  simp [-overR, -windowE, -sized, -pureR, -cutH, ir142, h47, hoe, hneb, hk1, hkl, hkl2, hlt, hwin, hsz, hpu, hkE, hkE2, hy, e1, h1, hX, hn, e2, e3, e4, e5, moveVs, moveV, move1]
  exact hcc
end Go.Proofs.Ytopjiafdimoeiaa
