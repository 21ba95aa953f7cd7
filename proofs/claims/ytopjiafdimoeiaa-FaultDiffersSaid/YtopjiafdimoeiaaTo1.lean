/- What a fault touches, by the reference. -/
import Derived.Test.YtopjiafdimoeiaaRp1
namespace Go.Proofs.Ytopjiafdimoeiaa
open Go Go.Am Go.Proofs
set_option maxRecDepth 100000
def selL (f : Nat → Bool) (b : Int) (n : Nat) : List Int := ((List.range n).filter f).map fun (j : Nat) => b + (j : Int)
theorem selL_succ (f : Nat → Bool) (b : Int) (n : Nat) : selL f b (n + 1) = if f n = true then selL f b n ++ [b + (n : Int)] else selL f b n := by
  unfold selL
  rw [List.range_succ, List.filter_append, List.map_append]
  cases h : f n <;> simp [h]
theorem selL_len (f : Nat → Bool) (b : Int) (n : Nat) : (selL f b n).length ≤ n := by
  unfold selL
  rw [List.length_map]
  exact Nat.le_trans (List.length_filter_le _ _) (by simp)
theorem selL_mem (f : Nat → Bool) (b : Int) (n : Nat) (v : Int) : v ∈ selL f b n ↔ ∃ j : Nat, j < n ∧ f j = true ∧ v = b + (j : Int) := by
  unfold selL
  simp only [List.mem_map, List.mem_filter, List.mem_range]
  constructor
  · rintro ⟨j, ⟨h1, h2⟩, rfl⟩
    exact ⟨j, h1, h2, rfl⟩
  · rintro ⟨j, h1, h2, rfl⟩
    exact ⟨j, ⟨h1, h2⟩, rfl⟩
/-! ### holds -/
def I75 (l : List Int) (n : Int) (k : Nat) (st : St) : Prop := st.h = [] ∧ st.s.length = 18 ∧ getS st.s 0 = ints l ∧ getS st.s 1 = num n ∧ getS st.s 5 = num k ∧ l.any (· == n) = (l.drop k).any (· == n)
def Q75 (l : List Int) (n : Int) (r : R) : Prop := r.st.s.length = 18 ∧ r.st.h = [] ∧ ((r.x = .exit 0 ∧ l.any (· == n) = false) ∨ (r.x = .ret ∧ getS r.st.s 4 = .bool true ∧ l.any (· == n) = true))
theorem loop75 (l : List Int) (n : Int) (hl9 : l.length ≤ 1000) (st : St) (h0 : I75 l n 0 st) : ∃ r, ev pg (.code (.going 0 L75_0) st) = some r ∧ Q75 l n r := by
  refine loop_from (I75 l n) l.length (Q75 l n) h0 ?_ ?_
  · rintro k ⟨s, hh⟩ hk ⟨rfl, hl, e0, e1, e5, he⟩
    simp only at hl e0 e1 e5
    have hk' : (k : Int) < l.length := by omega
    have wk := wrap_id (n := (k : Int) + 1) (by omega) (by omega)
    rw [any_at hk] at he
    rw [getS_expand hl]
    by_cases b1 : l[k] = n
    · have b1b : (l[k] == n) = true := by simpa using b1
      rw [b1b, Bool.true_or] at he
      simp [L75_0, Q75, List.range, List.range.loop, e0, e1, e5, hk, hk', b1]
      simpa using he
    · have b1b : (l[k] == n) = false := by simpa using b1
      rw [b1b, Bool.false_or] at he
      simp [L75_0, List.range, List.range.loop, e0, e1, e5, hk, hk', b1b, wk]
      exact ⟨rfl, rfl, rfl, rfl, rfl, he⟩
  · rintro ⟨s, hh⟩ ⟨rfl, hl, e0, e1, e5, he⟩
    simp only [List.drop_length] at hl e0 e1 e5 he
    have he' : l.any (· == n) = false := he
    rw [getS_expand hl]
    simp [L75_0, Q75, List.range, List.range.loop, e0, e1, e5]
    simpa using he'
theorem ev75 (l : List Int) (n : Int) (hl9 : l.length ≤ 1000) : ev pg (.call (.fn 75 [] []) [ints l, num n] []) = some { v := .bool (l.any (· == n)), st := ⟨[], []⟩ } := by
  have hloop := loop75 l n hl9
  have hI : ∀ st : St, (st.h = [] ∧ st.s.length = 18 ∧ getS st.s 0 = ints l ∧ getS st.s 1 = num n ∧ getS st.s 5 = num 0) → I75 l n 0 st := fun st h => ⟨h.1, h.2.1, h.2.2.1, h.2.2.2.1, h.2.2.2.2, rfl⟩
  unfold Q75 at hloop
  generalize l.any (· == n) = B at *
  rw [ev_call, pg75]
  simp [ir75, ev_loop]
  generalize hr : ev pg (.code (.going 0 L75_0) _) = o
  obtain ⟨r, rfl, hl, hh, hQ⟩ : ∃ r, o = some r ∧ _ := by
    rw [← hr]
    exact hloop _ (hI _ ⟨by simp, by simp, by simp, by simp, by simp⟩)
  rcases hQ with ⟨hx, rfl⟩ | ⟨hx, h4, rfl⟩
  · simp [hx, hl]
  · simp [hx, h4]
/-! ### used -/
def usedF (x : Sg) (k : Nat) : Bool := x.on.occ k || x.off.occ k
structure Keep76 (i : Nat) (st : List V) : Prop where
  nn : noNil st
  len : st.length = 36
  t1 : getS st 1 = num i
  t2 : getS st 2 = .bptr 0 0
abbrev h76 (c : Ct) (g m : Nat) (l : List Int) : H := [⟨0, .box c.cells⟩, ⟨0, .arr 0 []⟩, ⟨g, .arr m (l.map nrow)⟩]
def I76 (c : Ct) (i : Nat) (x : Sg) (k : Nat) (st : St) : Prop := ∃ g m, st.h = h76 c g m (selL (usedF x) 0 k) ∧ (m = 1 ∨ m = 0) ∧ Keep76 i st.s ∧ getS st.s 5 = .sl 2 g m 0 (selL (usedF x) 0 k).length ∧ getS st.s 6 = num k
def Q76 (c : Ct) (A : Nat) (x : Sg) (r : R) : Prop := r.x = .exit 0 ∧ ∃ g m, r.st.h = h76 c g m (selL (usedF x) 0 (countN c A)) ∧ r.st.s.length = 36 ∧ getS r.st.s 5 = .sl 2 g m 0 (selL (usedF x) 0 (countN c A)).length
theorem loop76 {c : Ct} {A : Nat} (h : Mid c A) (i : Nat) (hi : i < c.signals.length) (hon : c.signals[i].on.nodes ≤ 256) (hoff : c.signals[i].off.nodes ≤ 256) (st : St) (h0 : I76 c i c.signals[i] 0 st) : ∃ r, ev pg (.code (.going 3 L76_0) st) = some r ∧ Q76 c A c.signals[i] r := by
  have h37 := ev37 h
  have hcn : countN c A ≤ 172 := by
    obtain ⟨hA, h1, h2, h3, h4⟩ := h
    unfold countN
    omega
  refine loop_from (I76 c i c.signals[i]) (countN c A) (Q76 c A c.signals[i]) h0 ?_ ?_
  · rintro k ⟨s, hh⟩ hk ⟨g, m, rfl, hm, ⟨hnn, hl, e1, e2⟩, e5, e6⟩
    simp only at hl e1 e2 e5 e6
    have hnl : ∀ j, getS s j ≠ .nils := noNil_get hnn
    have wk := wrap_id (n := (k : Int) + 1) (by omega) (by omega)
    have h119a := ev119 k c.signals[i].on hon
    have h119b := ev119 k c.signals[i].off hoff
    have hlen := selL_len (usedF c.signals[i]) 0 k
    have hsu := selL_succ (usedF c.signals[i]) 0 k
    have hus : usedF c.signals[i] k = (c.signals[i].on.occ k || c.signals[i].off.occ k) := rfl
    rw [hus] at hsu
    generalize c.signals[i].on.occ k = b1 at *
    generalize c.signals[i].off.occ k = b2 at *
    unfold I76
    generalize selL (usedF c.signals[i]) 0 (k + 1) = l' at *
    generalize selL (usedF c.signals[i]) 0 k = l at *
    generalize countN c A = N at *
    have hk' : (k : Int) < (N : Int) := by omega
    have h47 : (l.length + 1) * 8 ≤ 140737488355328 := by omega
    rw [getS_expand hl]
    cases b1 with
    | true =>
      simp [L76_0, List.range, List.range.loop, e1, e2, e5, e6, hi, h37, hk', h119a, wk, hm, h47]
      have hsu' : l' = l ++ [(k : Int)] := by simpa using hsu
      exact ⟨_, _, ⟨rfl, rfl, by rw [hsu']; simp⟩, .inl rfl, ⟨by simp [noNil, hnl], rfl, rfl, rfl⟩, rfl, rfl, by rw [hsu']; simp⟩
    | false => cases b2 with
      | true =>
        simp [L76_0, List.range, List.range.loop, e1, e2, e5, e6, hi, h37, hk', h119a, h119b, wk, hm, h47]
        have hsu' : l' = l ++ [(k : Int)] := by simpa using hsu
        exact ⟨_, _, ⟨rfl, rfl, by rw [hsu']; simp⟩, .inl rfl, ⟨by simp [noNil, hnl], rfl, rfl, rfl⟩, rfl, rfl, by rw [hsu']; simp⟩
      | false =>
        simp [L76_0, List.range, List.range.loop, e1, e2, e5, e6, hi, h37, hk', h119a, h119b, wk]
        have hsu' : l' = l := by simpa using hsu
        exact ⟨_, _, ⟨rfl, rfl, by rw [hsu']⟩, hm, ⟨by simp [noNil, hnl], rfl, rfl, rfl⟩, rfl, rfl, by rw [hsu']⟩
  · rintro ⟨s, hh⟩ ⟨g, m, rfl, hm, ⟨hnn, hl, e1, e2⟩, e5, e6⟩
    simp only at hl e1 e2 e5 e6
    unfold Q76
    generalize selL (usedF c.signals[i]) 0 (countN c A) = l at *
    generalize countN c A = N at *
    rw [getS_expand hl]
    simp [L76_0, List.range, List.range.loop, e1, e2, e5, e6, h37]
theorem ev76 {c : Ct} {A : Nat} (h : Mid c A) (i : Nat) (hi : i < c.signals.length) (hon : c.signals[i].on.nodes ≤ 256) (hoff : c.signals[i].off.nodes ≤ 256) : ev pg (.call (.fn 76 [] []) [c.v, num i] []) = some { v := ints (selL (usedF c.signals[i]) 0 (countN c A)), st := ⟨[], []⟩ } := by
  have hloop := loop76 h i hi hon hoff
  have hI : ∀ st : St, (st.h = h76 c 0 0 [] ∧ Keep76 i st.s ∧ getS st.s 5 = .sl 2 0 0 0 0 ∧ getS st.s 6 = num 0) → I76 c i c.signals[i] 0 st := fun st hst => ⟨0, 0, hst.1, .inr rfl, hst.2.1, hst.2.2.1, hst.2.2.2⟩
  unfold Q76 at hloop
  generalize selL (usedF c.signals[i]) 0 (countN c A) = l at *
  rw [ev_call, pg76]
  simp [ir76, ev_loop]
  generalize hr : ev pg (.code (.going 3 L76_0) _) = o
  obtain ⟨r, rfl, hx, g, m, hh, hl, h5⟩ : ∃ r, o = some r ∧ _ := by
    rw [← hr]
    exact hloop _ (hI _ ⟨by simp, ⟨by simp [noNil], by simp, by simp, by simp⟩, by simp, by simp⟩)
  simp [hx, hh, hl, h5]
theorem used_any (x : Sg) (N : Nat) (n : Int) (hn : 0 ≤ n ∧ n < N) : (selL (usedF x) 0 N).any (· == n) = (x.on.occ n || x.off.occ n) := by
  obtain ⟨k, rfl⟩ : ∃ k : Nat, n = k := ⟨n.toNat, by omega⟩
  rw [Bool.eq_iff_iff, List.any_eq_true]
  constructor
  · rintro ⟨v, hv, he⟩
    obtain ⟨j, h1, h2, rfl⟩ := (selL_mem _ _ _ _).1 hv
    have : (j : Int) = k := by simpa using he
    rw [← this]
    exact h2
  · intro h
    exact ⟨k, (selL_mem _ _ _ _).2 ⟨k, by omega, h, by omega⟩, by simp⟩
/-! ### touches -/
def touchF (x : List Sg) (k i : Int) (j : Nat) : Bool := decide (k = 2 ∨ k = 3) && ((x[j]?).map fun x => x.on.occ i || x.off.occ i).getD false
def chgF (c : Ct) (k i : Int) (j : Nat) : Bool := decide (0 ≤ (pil c k i j).1) || decide (0 ≤ (pil c k i j).2)
def touchL (c : Ct) (A : Nat) (k i : Int) : List Int := selL (touchF c.signals k i) (firstN c A) c.signals.length ++ selL (chgF c k i) (countN c A) A
structure Keep18 (st : List V) : Prop where
  nn : noNil st
  len : st.length = 73
  t2 : getS st 2 = .bptr 0 0
  t3 : getS st 3 = .bptr 1 0
abbrev h18 (c : Ct) (k i : Int) (g m : Nat) (l : List Int) : H := [⟨0, .box c.cells⟩, ⟨0, .box [num k, num i]⟩, ⟨0, .arr 0 []⟩, ⟨g, .arr m (l.map nrow)⟩]
def I18a (c : Ct) (A : Nat) (k i : Int) (j : Nat) (st : St) : Prop := ∃ g m, st.h = h18 c k i g m (selL (touchF c.signals k i) (firstN c A) j) ∧ (m = 1 ∨ m = 0) ∧ Keep18 st.s ∧ getS st.s 7 = .sl 3 g m 0 (selL (touchF c.signals k i) (firstN c A) j).length ∧ getS st.s 8 = num j
def Q18a (c : Ct) (A : Nat) (k i : Int) (r : R) : Prop := r.x = .exit 0 ∧ ∃ g m, r.st.h = h18 c k i g m (selL (touchF c.signals k i) (firstN c A) c.signals.length) ∧ (m = 1 ∨ m = 0) ∧ Keep18 r.st.s ∧ getS r.st.s 7 = .sl 3 g m 0 (selL (touchF c.signals k i) (firstN c A) c.signals.length).length
theorem loop18a {c : Ct} {A : Nat} (h : Mid c A) (hfew : c.small = true) (k i : Int) (hi : 0 ≤ i) (hiN : k = 2 ∨ k = 3 → i < countN c A) (st : St) (h0 : I18a c A k i 0 st) : ∃ r, ev pg (.code (.going 4 L18_0) st) = some r ∧ Q18a c A k i r := by
  have h77 := ev77 h
  have h74 := ev74 k
  have hsig := h.sig
  refine loop_from (I18a c A k i) c.signals.length (Q18a c A k i) h0 ?_ ?_
  · rintro j ⟨s, hh⟩ hj ⟨g, m, rfl, hm, ⟨hnn, hl, e2, e3⟩, e7, e8⟩
    simp only at hl e2 e3 e7 e8
    have hnl : ∀ j, getS s j ≠ .nils := noNil_get hnn
    have wj := wrap_id (n := (j : Int) + 1) (by omega) (by omega)
    have hj' : (j : Int) < c.signals.length := by omega
    obtain ⟨_, hon, hoff⟩ := (few_parts hfew).2.2.2.2.2 _ (List.getElem_mem hj)
    have h76 := ev76 h j hj (light_nodes hon).1 (light_nodes hoff).1
    have hcn : countN c A ≤ 172 := by
      obtain ⟨hA, h1, h2, h3, h4⟩ := h
      unfold countN
      omega
    have h75 := ev75 (selL (usedF c.signals[j]) 0 (countN c A)) i (by have := selL_len (usedF c.signals[j]) 0 (countN c A); omega)
    have hlen := selL_len (touchF c.signals k i) (firstN c A) j
    have hsu := selL_succ (touchF c.signals k i) (firstN c A) j
    have hF : touchF c.signals k i j = (decide (k = 2 ∨ k = 3) && (c.signals[j].on.occ i || c.signals[j].off.occ i)) := by
      unfold touchF
      rw [List.getElem?_eq_getElem hj]
      rfl
    rw [hF] at hsu
    have hfc : firstN c A ≤ countN c A := by unfold firstN countN; omega
    have hsum : (firstN c A : Int) + (j : Int) ≤ 300 := by omega
    have hF0 : (0 : Int) ≤ (firstN c A : Int) := by omega
    unfold I18a
    generalize selL (touchF c.signals k i) (firstN c A) (j + 1) = l' at *
    generalize selL (touchF c.signals k i) (firstN c A) j = l at *
    have h47 : (l.length + 1) * 8 ≤ 140737488355328 := by omega
    generalize firstN c A = F at *
    have w2 := wrap_id (n := (F : Int) + (j : Int)) (by omega) (by omega)
    by_cases hlin : k = 2 ∨ k = 3
    · have hu := used_any c.signals[j] (countN c A) i ⟨hi, hiN hlin⟩
      rw [hu] at h75
      rw [decide_eq_true hlin] at h74 hsu
      generalize (c.signals[j].on.occ i || c.signals[j].off.occ i) = b at *
      generalize selL (usedF c.signals[j]) 0 (countN c A) = ul at *
      rw [getS_expand hl]
      cases b with
      | true =>
        simp [ev_draw1, exT, chkOk, L18_0, List.range, List.range.loop, e2, e3, e7, e8, hj', h77, h74, h76, h75, w2, wj, hm, h47]
        have hsu' : l' = l ++ [(F : Int) + (j : Int)] := by simpa using hsu
        exact ⟨_, _, ⟨rfl, rfl, by rw [hsu']; simp⟩, .inl rfl, ⟨by simp [noNil, hnl], rfl, rfl, rfl⟩, rfl, rfl, by rw [hsu']; simp⟩
      | false =>
        simp [ev_draw1, exT, chkOk, L18_0, List.range, List.range.loop, e2, e3, e7, e8, hj', h74, h76, h75, wj]
        have hsu' : l' = l := by simpa using hsu
        exact ⟨_, _, ⟨rfl, rfl, by rw [hsu']⟩, hm, ⟨by simp [noNil, hnl], rfl, rfl, rfl⟩, rfl, rfl, by rw [hsu']⟩
    · rw [decide_eq_false hlin] at h74 hsu
      rw [getS_expand hl]
      simp [ev_draw1, exT, chkOk, L18_0, List.range, List.range.loop, e2, e3, e7, e8, hj', h74, wj]
      have hsu' : l' = l := by simpa using hsu
      exact ⟨_, _, ⟨rfl, rfl, by rw [hsu']⟩, hm, ⟨by simp [noNil, hnl], rfl, rfl, rfl⟩, rfl, rfl, by rw [hsu']⟩
  · rintro ⟨s, hh⟩ ⟨g, m, rfl, hm, ⟨hnn, hl, e2, e3⟩, e7, e8⟩
    simp only at hl e2 e3 e7 e8
    have hnl : ∀ j, getS s j ≠ .nils := noNil_get hnn
    unfold Q18a
    generalize selL (touchF c.signals k i) (firstN c A) c.signals.length = l at *
    rw [getS_expand hl]
    simp [L18_0, List.range, List.range.loop, e2, e3, e7, e8]
    exact ⟨_, _, ⟨rfl, rfl⟩, hm, ⟨by simp [noNil, hnl], rfl, rfl, rfl⟩, rfl, rfl⟩
end Go.Proofs.Ytopjiafdimoeiaa
