/- The law of reads holds of Am. -/
import Derived.Test.YtopjiafdimoeiaaFy5
import Derived.Test.YtopjiafdimoeiaaAw4
namespace Go.Proofs.Ytopjiafdimoeiaa
open Go Go.Am Go.Proofs
set_option maxRecDepth 100000
theorem ev27 (c : Ct) (k i : Int) : ev pg (.call (.fn 27 [] []) [c.v, fv k i] []) = some { v := .bool (c.few && decide (fltE c k i = 0)), st := ⟨[], []⟩ } := by
  have h13 := ev13 c
  rw [ev_call, pg27]
  by_cases hfew : c.few = true
  · rw [hfew] at h13 ⊢
    have h20 := ev20 c (few_small hfew) k i
    generalize fltE c k i = e at *
    by_cases he : e = 0
    · simp [ir27, h13, h20, he]
    · simp [ir27, h13, h20, he]
  · have hb : c.few = false := by simpa using hfew
    rw [hb] at h13 ⊢
    simp [ir27, h13]
abbrev h5 (c : Ct) (k i : Int) (D : Ct) : H := [⟨0, .box c.cells⟩, ⟨0, .box [num k, num i]⟩, ⟨0, .box [num k, num i]⟩, ⟨0, .arr 0 []⟩, ⟨0, .arr 0 []⟩, ⟨0, .arr 0 []⟩, ⟨0, .arr 0 []⟩, ⟨0, .box D.cells⟩]
def I5 (c : Ct) (k i : Int) (D : Ct) (n : Nat) (st : St) : Prop := st.h = h5 c k i D ∧ st.s.length = 133 ∧ getS st.s 2 = .bptr 0 0 ∧ getS st.s 4 = .bool false ∧ getS st.s 9 = .bptr 7 0 ∧ getS st.s 93 = .imm (c.signals.map Sg.row) ∧ getS st.s 94 = num c.signals.length ∧ getS st.s 95 = num n
def Q5 (r : R) : Prop := r.x = .exit 0 ∧ r.st.s.length = 133
theorem loop5 (c : Ct) (hc : c.signals.length ≤ 128) (k i : Int) (D : Ct) (hs : ∀ j (hj : j < c.signals.length), ∃ y, D.signals[j]? = some y ∧ y.name = c.signals[j].name ∧ y.kind = c.signals[j].kind ∧ y.delay = c.signals[j].delay ∧ y.init = c.signals[j].init) (st : St) (h0 : I5 c k i D 0 st) : ∃ r, ev pg (.code (.going 8 L5_0) st) = some r ∧ Q5 r := by
  refine loop_from (I5 c k i D) c.signals.length Q5 h0 ?_ ?_
  · rintro n ⟨s, hh⟩ hn ⟨rfl, hl, e2, e4, e9, e93, e94, e95⟩
    simp only at hl e2 e4 e9 e93 e94 e95
    have wn := wrap_id (n := (n : Int) + 1) (by omega) (by omega)
    have hn' : (n : Int) < (c.signals.length : Int) := by omega
    obtain ⟨y, hy, h1, h2, h3, h4⟩ := hs n hn
    have gx : (c.signals.map Sg.row)[n]? = some c.signals[n].row := by rw [List.getElem?_map, List.getElem?_eq_getElem hn]; rfl
    obtain ⟨yn, yk, yo, yf, yd, yi⟩ := y
    simp only at h1 h2 h3 h4
    subst h1 h2 h3 h4
    generalize c.signals[n] = x at *
    unfold I5
    obtain ⟨act, inputs, signals, plus, minus⟩ := D
    simp only at hy
    generalize c.signals.map Sg.row = X at *
    rw [getS_expand hl]
    simp [L5_0, List.range, List.range.loop, e2, e4, e9, e93, e94, e95, hn', gx, hy, wn]
  · rintro ⟨s, hh⟩ ⟨rfl, hl, e2, e4, e9, e93, e94, e95⟩
    simp only at hl e2 e4 e9 e93 e94 e95
    rw [getS_expand hl]
    simp [L5_0, Q5, List.range, List.range.loop, e2, e4, e9, e93, e94, e95]
theorem ev5 (c : Ct) (k i : Int) : ∃ r, ev pg (.call (.fn 5 [] []) [c.v, fv k i] []) = some r ∧ r.v = .bool true := by
  refine ⟨{ v := .bool true, st := ⟨[], []⟩ }, ?_, rfl⟩
  have h14 := ev14
  have h27 := ev27 c k i
  by_cases hr : c.few = true ∧ fltE c k i = 0
  · obtain ⟨hf, he⟩ := hr
    have hfew := few_small hf
    have h23 := ev23 c hfew k i
    have h25 := ev25 c hfew (textR c k i)
    have h28 := ev28 c hfew k i
    have h29 := ev29 (faultyF c k i).d (faulty_small hfew (flt_parts he).1 k i)
    have h30 := ev30 (faultyF c k i).d.inputs c.inputs (by have := (few_parts hfew).1; rw [(faulty_same c k i).2]; omega)
    rw [read_back hfew he] at h25
    rw [he] at h23
    rw [hf, he] at h27
    obtain ⟨ha, hin⟩ := faulty_same c k i
    obtain ⟨hl1, hl2⟩ := faulty_lens c k i
    have hat := faulty_at c k i
    have hloop := loop5 c (few_parts hfew).2.1 k i (faultyF c k i).d fun j hj => ⟨_, hat j hj, rfl, rfl, rfl, rfl⟩
    clear hat
    rw [hin] at h30
    unfold injD injE at h28
    rw [if_pos he] at h28
    generalize textR c k i = T at *
    generalize (faultyF c k i).d = D at *
    obtain ⟨act, inputs, signals, plus, minus⟩ := D
    simp only at ha hin hl1 hl2
    subst ha hin
    rw [ev_call, pg5]
    by_cases hd : (⟨c.act, c.inputs, signals, plus, minus⟩ : Ct).check = 0
    · rw [if_pos hd, if_pos rfl] at h28
      rw [hd] at h29
      have n1 : ¬ ((signals.length : Int) < (c.signals.length : Int)) := by omega
      have n2 : ¬ ((c.signals.length : Int) + 2 < (signals.length : Int)) := by omega
      have w2 := wrap_id (n := (c.signals.length : Int) + 2) (by omega) (by have := (few_parts hfew).2.1; omega)
      simp [ir5, h27, h23, h25, h28, h29, h30, n1, n2, w2, ev_loop]
      generalize hr : ev pg (.code (.going 8 L5_0) _) = o
      obtain ⟨r, rfl, hx, hl⟩ : ∃ r, o = some r ∧ _ := by
        rw [← hr]
        exact hloop _ ⟨by simp, by simp, by simp, by simp, by simp, by simp, by simp, by simp⟩
      simp [hx, hl, h14]
    · rw [if_neg hd, if_neg (by omega)] at h28
      simp [ir5, h27, h23, h25, h28, h14]
  · have hb : (c.few && decide (fltE c k i = 0)) = false := by
      rw [Bool.and_eq_false_iff, decide_eq_false_iff_not]
      by_cases h1 : c.few = true
      · exact .inr fun h => hr ⟨h1, h⟩
      · exact .inl (by simpa using h1)
    rw [hb] at h27
    rw [ev_call, pg5]
    simp [ir5, h27, h14]
end Go.Proofs.Ytopjiafdimoeiaa
