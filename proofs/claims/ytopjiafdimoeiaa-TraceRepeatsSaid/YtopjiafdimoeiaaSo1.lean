/- Sorting by insertion: strokes of distinct actuators. -/
import Derived.Test.YtopjiafdimoeiaaWl1
import Derived.Test.YtopjiafdimoeiaaWp1
namespace Go.Proofs.Ytopjiafdimoeiaa
open Go Go.Am Go.Proofs
set_option maxRecDepth 100000
theorem beqR_map {α : Type} {row : α → List V} (h : ∀ x, beqL (row x) (row x) = true) : ∀ l : List α, beqR (l.map row) (l.map row) = true
  | [] => rfl
  | x :: l => by simp only [List.map_cons, beqR, h x, beqR_map h l, Bool.and_self]
@[simp] theorem beqR_sk (w : List Sk) : beqR (w.map Sk.row) (w.map Sk.row) = true := beqR_map (fun x => by simp) w
@[simp] theorem beqR_stp (l : List Stp) : beqR (l.map Stp.row) (l.map Stp.row) = true := beqR_map (fun x => by simp) l
theorem ev98 (x y : Sk) (h : x.act ≠ y.act) (hx : 0 ≤ x.act ∧ x.act < 6) (hy : 0 ≤ y.act ∧ y.act < 6) : ev pg (.call (.fn 98 [] []) [.agg x.row, .agg y.row] []) = some { v := num (x.act - y.act), st := ⟨[], []⟩ } := by
  have h1 : (x.act == y.act) = false := by simpa using h
  have w := wrap_id (n := x.act - y.act) (by omega) (by omega)
  rw [ev_call, pg98]
  simp [ir98, h, h1, w]
theorem ev139 (n : Nat) (hn : n ≤ 6) : ∃ v, ev pg (.call (.fn 139 [] []) [.int .u64 n] []) = some { v := num v, st := ⟨[], []⟩ } := by
  match n, hn with
  | 0, _ => exact ⟨0, ev_of (n := 60) (by kernel_rfl)⟩
  | 1, _ => exact ⟨1, ev_of (n := 60) (by kernel_rfl)⟩
  | 2, _ => exact ⟨2, ev_of (n := 60) (by kernel_rfl)⟩
  | 3, _ => exact ⟨2, ev_of (n := 60) (by kernel_rfl)⟩
  | 4, _ => exact ⟨3, ev_of (n := 60) (by kernel_rfl)⟩
  | 5, _ => exact ⟨3, ev_of (n := 60) (by kernel_rfl)⟩
  | 6, _ => exact ⟨3, ev_of (n := 60) (by kernel_rfl)⟩
  | n + 7, h => omega
theorem wrapU {n : Int} (h : 0 ≤ n) (h2 : n ≤ 6) : IntKind.u64.wrap n = n := by
  unfold IntKind.wrap; simp [IntKind.bits, IntKind.signed]; omega
/-! ### one stroke put in -/
abbrev asc (l : List Sk) : Prop := l.Pairwise (fun a b => a.act < b.act)
structure distinct (l : List Sk) : Prop where
  ne : ∀ (i j : Nat) (x y : Sk), l[i]? = some x → l[j]? = some y → x.act = y.act → i = j
  rg : ∀ x ∈ l, 0 ≤ x.act ∧ x.act < 6
theorem ins_asc {p : List Sk} {x : Sk} {j : Nat} (hp : asc p) (hhi : ∀ y ∈ p.drop j, x.act < y.act) (hlo : j = 0 ∨ ∃ m y, j = m + 1 ∧ p[m]? = some y ∧ y.act < x.act) : asc (p.take j ++ x :: p.drop j) := by
  have h0 : asc (p.take j ++ p.drop j) := by rw [List.take_append_drop]; exact hp
  obtain ⟨h1, h2, h3⟩ := List.pairwise_append.1 h0
  refine List.pairwise_append.2 ⟨h1, List.Pairwise.cons hhi h2, fun a ha b hb => ?_⟩
  rcases List.mem_cons.1 hb with rfl | hb
  · rcases hlo with rfl | ⟨m, y, rfl, hy, hlt⟩
    · simp at ha
    · obtain ⟨hm, he⟩ := List.getElem?_eq_some_iff.1 hy
      rw [List.take_succ_eq_append_getElem hm] at ha h1
      rcases List.mem_append.1 ha with ha | ha
      · have := (List.pairwise_append.1 h1).2.2 a ha p[m] (by simp)
        rw [he] at this
        omega
      · have : a = p[m] := by simpa using ha
        rw [this, he]
        exact hlt
  · exact h3 a ha b hb
theorem ins_perm {p : List Sk} {x : Sk} (j : Nat) : (p.take j ++ x :: p.drop j).Perm (p ++ [x]) := by
  have h1 : (p.take j ++ x :: p.drop j).Perm (x :: (p.take j ++ p.drop j)) := List.perm_middle
  rw [List.take_append_drop] at h1
  exact h1.trans (List.perm_append_singleton x p).symm
/-- What lies there while a stroke is on its way down. -/
abbrev mid (p : List Sk) (x : Sk) (rest : List Sk) (j : Nat) : List Sk := p.take j ++ x :: (p.drop j ++ rest)
theorem mid_at {p : List Sk} {x : Sk} {rest : List Sk} {j : Nat} (hj : j ≤ p.length) : (mid p x rest j)[j]? = some x := by
  have h : (p.take j).length = j := by rw [List.length_take]; omega
  rw [List.getElem?_append_right (by omega), h, Nat.sub_self]
  rfl
theorem mid_prev {p : List Sk} {x : Sk} {rest : List Sk} {m : Nat} (hj : m < p.length) : (mid p x rest (m + 1))[m]? = some p[m] := by
  have h : m < (p.take (m + 1)).length := by rw [List.length_take]; omega
  rw [List.getElem?_append_left h, List.getElem?_take_of_lt (by omega), List.getElem?_eq_getElem hj]
theorem mid_swap {p : List Sk} {x : Sk} {rest : List Sk} {m : Nat} (hj : m < p.length) : ((mid p x rest (m + 1)).set (m + 1) p[m]).set m x = mid p x rest m := by
  unfold mid
  have h : (p.take m).length = m := by rw [List.length_take]; omega
  rw [List.take_succ_eq_append_getElem hj, List.append_assoc, List.set_append_right _ _ (by omega), List.set_append_right _ _ (by omega), h, Nat.sub_self, show m + 1 - m = 1 by omega]
  show p.take m ++ (x :: p[m] :: (p.drop (m + 1) ++ rest)) = _
  rw [List.drop_eq_getElem_cons hj]
  rfl
/-! ### the program -/
structure Keep169 (id g n : Nat) (i : Nat) (st : List V) : Prop where
  nn : noNil st
  len : st.length = 53
  t0 : getS st 0 = .sl id g 2 0 n
  t1 : getS st 1 = num 0
  t2 : getS st 2 = num n
  t3 : getS st 3 = .fn 98 [] []
  t8 : getS st 8 = num i
abbrev hS (h : H) (id g : Nat) (l : List Sk) : H := h.set id ⟨g, .arr 2 (l.map Sk.row)⟩
def I169a (h : H) (id g n : Nat) (p : List Sk) (x : Sk) (rest : List Sk) (k : Nat) (st : St) : Prop := ∃ j, j + k = p.length ∧ st.h = hS h id g (mid p x rest j) ∧ (∀ y ∈ p.drop j, x.act < y.act) ∧ Keep169 id g n p.length st.s ∧ getS st.s 9 = num j
def Q169a (h : H) (id g n : Nat) (p : List Sk) (x : Sk) (rest : List Sk) (r : R) : Prop := r.x = .exit 2 ∧ ∃ q : List Sk, q.Perm (p ++ [x]) ∧ asc q ∧ r.st.h = hS h id g (q ++ rest) ∧ Keep169 id g n p.length r.st.s
theorem loop169a (h : H) (id g n : Nat) (p : List Sk) (x : Sk) (rest : List Sk) (hid : id < h.length) (hc : calm h) (hp : asc p) (hlen : p.length + 1 + rest.length = n) (hn : n ≤ 6) (hx : 0 ≤ x.act ∧ x.act < 6) (hpx : ∀ y ∈ p, x.act ≠ y.act ∧ 0 ≤ y.act ∧ y.act < 6) (st : St) (h0 : I169a h id g n p x rest 0 st) : ∃ r, ev pg (.code (.going h.length L169_0) st) = some r ∧ Q169a h id g n p x rest r := by
  refine loop_from (I169a h id g n p x rest) p.length (Q169a h id g n p x rest) h0 ?_ ?_
  · rintro k ⟨s, hh⟩ hk ⟨j, hj, rfl, hhi, ⟨hnn, hl, e0, e1, e2, e3, e8⟩, e9⟩
    simp only at hl e0 e1 e2 e3 e8 e9
    have hn : ∀ j, getS s j ≠ .nils := noNil_get hnn
    obtain ⟨m, rfl⟩ : ∃ m, j = m + 1 := ⟨j - 1, by omega⟩
    have hm : m < p.length := by omega
    have hmn : m < n := by omega
    have hmn1 : m + 1 < n := by omega
    have wm := wrap_id (n := (m : Int)) (by omega) (by omega)
    have hy := hpx p[m] (List.getElem_mem hm)
    have hc98 := ev98 x p[m] hy.1 hx hy.2
    have hm1 := mid_at (x := x) (rest := rest) (j := m + 1) hm
    have hm2 := mid_prev (x := x) (rest := rest) hm
    have hms := mid_swap (x := x) (rest := rest) hm
    have hget : ∀ els, (h.set id ⟨g, .arr 2 els⟩)[id]? = some ⟨g, .arr 2 els⟩ := fun els => by rw [List.getElem?_set_self hid]
    have hcut : ∀ els, cutL h.length (h.set id ⟨g, .arr 2 els⟩) = h.set id ⟨g, .arr 2 els⟩ := fun els => by
      have := calm_cutL (calm_set (id := id) (g := g) (n := 2) (els := els) hc)
      rw [List.length_set] at this
      exact this
    generalize hL : mid p x rest (m + 1) = L at *
    have hset : ∀ v, ((L.map Sk.row).set (m + 1) v)[m]? = some p[m].row := fun v => by
      rw [List.getElem?_set_ne (by omega), List.getElem?_map, hm2]; rfl
    have hpos : (0 : Int) < (m : Int) + 1 := by omega
    have hpos' : (0 : Int) ≤ (m : Int) + 1 := by omega
    have hcast : ((m : Int) + 1).toNat = m + 1 := by omega
    have wd := wrap_id (n := x.act - p[m].act) (by omega) (by omega)
    rw [getS_expand hl]
    by_cases hlt : x.act < p[m].act
    · have hlt' : x.act - p[m].act < 0 := by omega
      simp [-cutL, L169_0, List.range, List.range.loop, e0, e1, e2, e3, e8, e9, hpos, hpos', hcast, hget, hm1, hm2, hmn, hmn1, wm, hc98, hlt, hlt', hset, hcut, hid]
      refine ⟨m, by omega, ?_, fun y hy => ?_, ⟨by simp [noNil, hn], rfl, rfl, rfl, rfl, rfl, rfl⟩, rfl⟩
      · unfold hS
        rw [← hms, List.map_set, List.map_set]
      · rw [List.drop_eq_getElem_cons hm] at hy
        rcases List.mem_cons.1 hy with rfl | hy
        · exact hlt
        · exact hhi y hy
    · have hlt' : ¬ (x.act - p[m].act < 0) := by omega
      simp [-cutL, L169_0, List.range, List.range.loop, e0, e1, e2, e3, e8, e9, hpos, hpos', hcast, hget, hm1, hm2, hmn, hmn1, wm, hc98, hlt, hlt', hset, hcut, hid]
      subst hL
      exact ⟨rfl, p.take (m + 1) ++ x :: p.drop (m + 1), ins_perm (m + 1), ins_asc hp hhi (.inr ⟨m, p[m], rfl, List.getElem?_eq_getElem hm, by omega⟩), by simp [mid], ⟨by simp [noNil, hn], rfl, rfl, rfl, rfl, rfl, rfl⟩⟩
  · rintro ⟨s, hh⟩ ⟨j, hj, rfl, hhi, ⟨hnn, hl, e0, e1, e2, e3, e8⟩, e9⟩
    simp only at hl e0 e1 e2 e3 e8 e9
    have hn : ∀ j, getS s j ≠ .nils := noNil_get hnn
    obtain rfl : j = 0 := by omega
    rw [getS_expand hl]
    simp [L169_0, List.range, List.range.loop, e0, e1, e2, e3, e8, e9]
    refine ⟨rfl, mid p x [] 0, ?_, ?_, by simp [mid], ⟨by simp [noNil, hn], by simp, by simp, by simp, by simp, by simp, by simp⟩⟩
    · have := ins_perm (p := p) (x := x) 0
      simpa [mid] using this
    · have := ins_asc (x := x) hp hhi (.inl rfl)
      simpa [mid] using this
def I169 (h : H) (id g : Nat) (l : List Sk) (k : Nat) (st : St) : Prop := ∃ p : List Sk, p.Perm (l.take (k + 1)) ∧ asc p ∧ st.h = hS h id g (p ++ l.drop (k + 1)) ∧ Keep169 id g l.length (k + 1) st.s
def Q169 (h : H) (id g : Nat) (l : List Sk) (r : R) : Prop := r.x = .exit 0 ∧ ∃ p : List Sk, p.Perm l ∧ asc p ∧ r.st.h = hS h id g p
theorem loop169 (h : H) (id g : Nat) (l : List Sk) (hid : id < h.length) (hc : calm h) (hd : distinct l) (hl6 : l.length ≤ 6) (st : St) (h0 : I169 h id g l 0 st) : ∃ r, ev pg (.code (.going h.length L169_1) st) = some r ∧ Q169 h id g l r := by
  refine loop_from (I169 h id g l) (l.length - 1) (Q169 h id g l) h0 ?_ ?_
  · rintro k ⟨s, hh⟩ hk ⟨p, hpm, hpa, rfl, ⟨hnn, hl, e0, e1, e2, e3, e8⟩⟩
    simp only at hl e0 e1 e2 e3 e8
    have hn : ∀ j, getS s j ≠ .nils := noNil_get hnn
    have hk1 : k + 1 < l.length := by omega
    have hk' : (k : Int) + 1 < l.length := by omega
    have wk := wrap_id (n := (k : Int) + 1 + 1) (by omega) (by omega)
    have hpl : p.length = k + 1 := by rw [hpm.length_eq, List.length_take]; omega
    have hcut : ∀ els, cutL h.length (h.set id ⟨g, .arr 2 els⟩) = h.set id ⟨g, .arr 2 els⟩ := fun els => by
      have := calm_cutL (calm_set (id := id) (g := g) (n := 2) (els := els) hc)
      rw [List.length_set] at this
      exact this
    rw [getS_expand hl]
    simp [-cutL, L169_1, List.range, List.range.loop, e0, e1, e2, e3, e8, hk', ev_loop, hn]
    generalize hr : ev pg (.code (.going h.length L169_0) _) = o
    obtain ⟨r, rfl, hx, q, hqm, hqa, hh, ⟨hnn', gl, g0, g1, g2, g3, g8⟩⟩ : ∃ r, o = some r ∧ Q169a h id g l.length p l[k + 1] (l.drop (k + 2)) r := by
      rw [← hr]
      refine loop169a h id g l.length p l[k + 1] (l.drop (k + 2)) hid hc hpa (by rw [hpl, List.length_drop]; omega) hl6 (hd.rg _ (List.getElem_mem _)) (fun y hy => ?_) _ ⟨p.length, by omega, ?_, by simp, ⟨?_, ?_, ?_, ?_, ?_, ?_, ?_⟩, ?_⟩
      · have hy' := hpm.mem_iff.1 hy
        refine ⟨fun e => ?_, hd.rg y (List.mem_of_mem_take hy')⟩
        obtain ⟨i, hi⟩ := List.mem_iff_getElem?.1 hy'
        have hik : i < k + 1 := by
          have := (List.getElem?_eq_some_iff.1 hi).1
          rw [List.length_take] at this
          omega
        rw [List.getElem?_take_of_lt hik] at hi
        have := hd.ne (k + 1) i _ _ (List.getElem?_eq_getElem hk1) hi e
        omega
      · simp [mid]
      all_goals simp [noNil, hn, hpl]
    have hx2 : (l.take (k + 1) ++ [l[k + 1]]) = l.take (k + 1 + 1) := (List.take_succ_eq_append_getElem hk1).symm
    simp [-cutL, hx, hh, gl, g0, g1, g2, g3, g8, hpl, wk, hcut]
    refine ⟨q, hqm.trans (by rw [← hx2]; exact hpm.append_right _), hqa, ?_, ⟨?_, ?_, ?_, ?_, ?_, ?_, ?_⟩⟩
    · unfold hS
      rw [List.map_append, List.map_drop]
    · apply noNil_scrub
      repeat (first | with_reducible exact hnn' | with_reducible refine noNil_set ?_ (by simp))
    all_goals simp [gl, g0, g1, g2, g3]
    exact hid
  · rintro ⟨s, hh⟩ ⟨p, hpm, hpa, rfl, ⟨hnn, hl, e0, e1, e2, e3, e8⟩⟩
    simp only at hl e0 e1 e2 e3 e8
    have hle : l.length ≤ l.length - 1 + 1 := by omega
    have hge : ¬ (((l.length - 1 : Nat) : Int) + 1 < (l.length : Int)) := by omega
    rw [List.take_of_length_le hle] at hpm
    rw [List.drop_eq_nil_of_le hle, List.append_nil]
    rw [getS_expand hl]
    simp [L169_1, List.range, List.range.loop, e0, e1, e2, e3, e8, hge]
    exact ⟨rfl, p, hpm, hpa, rfl⟩
theorem hS_self {h : H} {id g : Nat} {l : List Sk} (ho : h[id]? = some ⟨g, .arr 2 (l.map Sk.row)⟩) : hS h id g l = h := by
  obtain ⟨hlt, he⟩ := List.getElem?_eq_some_iff.1 ho
  unfold hS
  rw [← he, List.set_getElem_self]
theorem ev169 (h : H) (id g : Nat) (l : List Sk) (hc : calm h) (ho : h[id]? = some ⟨g, .arr 2 (l.map Sk.row)⟩) (hd : distinct l) (hl6 : l.length ≤ 6) : ∃ p : List Sk, p.Perm l ∧ asc p ∧ ev pg (.call (.fn 169 [] []) [.sl id g 2 0 l.length, num 0, num l.length, .fn 98 [] []] h) = some { v := .tup [], st := ⟨[], hS h id g p⟩ } := by
  have hid := (List.getElem?_eq_some_iff.1 ho).1
  have hcut : ∀ els, cutK h.length (h.set id ⟨g, .arr 2 els⟩) = h.set id ⟨g, .arr 2 els⟩ := fun els => by
    have := calm_cutK (calm_set (id := id) (g := g) (n := 2) (els := els) hc)
    rw [List.length_set] at this
    exact this
  have w1 := wrap_id (n := 1) (by omega) (by omega)
  have hex : ∃ r, ev pg (.code (.going h.length L169_1) ⟨setS (setS (setS (padS 53 [.sl id g 2 0 l.length, num 0, num l.length, .fn 98 [] []]) 10 (num 0)) 11 (num 1)) 8 (num 1), h⟩) = some r ∧ Q169 h id g l r := by
    refine loop169 h id g l hid hc hd hl6 _ ⟨l.take 1, List.Perm.refl _, ?_, ?_, ⟨?_, ?_, ?_, ?_, ?_, ?_, ?_⟩⟩
    · match l with
      | [] => exact List.Pairwise.nil
      | x :: l => exact List.pairwise_singleton _ _
    · rw [Nat.zero_add, List.take_append_drop]
      exact (hS_self ho).symm
    all_goals simp [noNil]
  obtain ⟨r, hr, hx, p, hpm, hpa, hh⟩ := hex
  refine ⟨p, hpm, hpa, ?_⟩
  simp at hr
  rw [ev_call, pg169]
  simp [-cutK, ir169, ev_loop, hr, hx, hh, hcut, w1]
theorem ev138 (h : H) (id g : Nat) (l : List Sk) (v : Int) (hc : calm h) (ho : h[id]? = some ⟨g, .arr 2 (l.map Sk.row)⟩) (hd : distinct l) (hl6 : l.length ≤ 6) : ∃ p : List Sk, p.Perm l ∧ asc p ∧ ev pg (.call (.fn 138 [] []) [.sl id g 2 0 l.length, num 0, num l.length, num v, .fn 98 [] []] h) = some { v := .tup [], st := ⟨[], hS h id g p⟩ } := by
  obtain ⟨p, hpm, hpa, h169⟩ := ev169 h id g l hc ho hd hl6
  have hcut : ∀ els, cutK h.length (h.set id ⟨g, .arr 2 els⟩) = h.set id ⟨g, .arr 2 els⟩ := fun els => by
    have := calm_cutK (calm_set (id := id) (g := g) (n := 2) (els := els) hc)
    rw [List.length_set] at this
    exact this
  have wl := wrap_id (n := (l.length : Int)) (by omega) (by omega)
  have hle : (l.length : Int) ≤ 12 := by omega
  refine ⟨p, hpm, hpa, ?_⟩
  rw [ev_call, pg138]
  simp [-cutK, ir138, ev_loop, ev_going, L138_0, h169, wl, hle, hcut]
theorem ev97 (h : H) (id g : Nat) (l : List Sk) (hc : calm h) (ho : h[id]? = some ⟨g, .arr 2 (l.map Sk.row)⟩) (hd : distinct l) (hl6 : l.length ≤ 6) : ∃ p : List Sk, p.Perm l ∧ asc p ∧ ev pg (.call (.fn 97 [] []) [.sl id g 2 0 l.length, .fn 98 [] []] h) = some { v := .tup [], st := ⟨[], hS h id g p⟩ } := by
  obtain ⟨v, h139⟩ := ev139 l.length hl6
  obtain ⟨p, hpm, hpa, h138⟩ := ev138 h id g l v hc ho hd hl6
  have hcut : ∀ els, cutK h.length (h.set id ⟨g, .arr 2 els⟩) = h.set id ⟨g, .arr 2 els⟩ := fun els => by
    have := calm_cutK (calm_set (id := id) (g := g) (n := 2) (els := els) hc)
    rw [List.length_set] at this
    exact this
  have wu := wrapU (n := (l.length : Int)) (by omega) (by omega)
  refine ⟨p, hpm, hpa, ?_⟩
  rw [ev_call, pg97]
  simp [-cutK, ir97, h139, h138, wu, hcut]
end Go.Proofs.Ytopjiafdimoeiaa
